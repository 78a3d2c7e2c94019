import Derived.Test.YtojpokpdfbgelaaDoorRLaw3d

/- The laws of nets: NetGrid. -/
set_option linter.unusedSimpArgs false
set_option linter.unusedVariables false
namespace Go.Rm

theorem nthI_mem {l : List Int} {i : Nat} (hi : i < l.length) : nthI l i ∈ l := by
  simp only [nthI, List.getD_eq_getElem?_getD, List.getElem?_eq_getElem hi, Option.getD_some]
  exact List.getElem_mem hi
/-- the number at a place among those that are so -/
theorem idxF_at {p : Tri → Bool} : ∀ {l : List Tri} {k i : Nat}, i < (idxF p k l).length → ∃ a, a < l.length ∧ nthI (idxF p k l) i = ((k + a : Nat) : Int) ∧ p (nthT l a) = true ∧ ((l.take a).filter p).length = i := by
  intro l
  induction l with
  | nil => intro k i hi; simp [idxF] at hi
  | cons t r ih =>
    intro k i hi
    rw [idxF] at hi ⊢
    by_cases c : p t = true
    · rw [if_pos c] at hi ⊢
      cases i with
      | zero => exact ⟨0, by simp, by simp [nthI], by simpa [nthT] using c, by simp⟩
      | succ i =>
        obtain ⟨a, h1, h2, h3, h4⟩ := ih (k := k + 1) (i := i) (by simpa using hi)
        refine ⟨a + 1, by simpa using h1, ?_, by simpa [nthT] using h3, by simp [c, h4]⟩
        have : nthI ((k : Int) :: idxF p (k + 1) r) (i + 1) = nthI (idxF p (k + 1) r) i := by simp [nthI]
        rw [this, h2]
        congr 1
        omega
    · rw [if_neg c] at hi ⊢
      obtain ⟨a, h1, h2, h3, h4⟩ := ih (k := k + 1) (i := i) hi
      refine ⟨a + 1, by simpa using h1, ?_, by simpa [nthT] using h3, by simp [c, h4]⟩
      rw [h2]
      congr 1
      omega
theorem insO_lenN {as : List Tri} {v : Nat} : (insO as v).length = insN as v := by rw [insO, idxF_len, insN]
theorem outsO_lenN {as : List Tri} {v : Nat} : (outsO as v).length = outsN as v := by rw [outsO, idxF_len, outsN]

/-- how many arcs begin at the vertices below n -/
def outsSum (as : List Tri) : Nat → Nat
  | 0 => 0
  | n + 1 => outsSum as n + outsN as n
theorem outsSum_cons {t : Tri} {r : List Tri} : ∀ {n : Nat}, outsSum (t :: r) n = outsSum r n + if 0 ≤ t.a ∧ t.a < n then 1 else 0 := by
  intro n
  induction n with
  | zero => simp [outsSum]
  | succ n ih =>
    rw [outsSum, outsSum, ih]
    have : outsN (t :: r) n = outsN r n + if t.a = (n : Int) then 1 else 0 := by
      unfold outsN
      by_cases c : t.a = (n : Int) <;> simp [c]
    rw [this]
    by_cases c : t.a = (n : Int)
    · have h1 : ¬ (0 ≤ t.a ∧ t.a < n) := by omega
      have h2 : 0 ≤ t.a ∧ t.a < ((n + 1 : Nat) : Int) := by omega
      rw [if_neg h1, if_pos c, if_pos h2]
      omega
    · by_cases d : 0 ≤ t.a ∧ t.a < n
      · have h2 : 0 ≤ t.a ∧ t.a < ((n + 1 : Nat) : Int) := by omega
        rw [if_pos d, if_neg c, if_pos h2]
        omega
      · have h2 : ¬ (0 ≤ t.a ∧ t.a < ((n + 1 : Nat) : Int)) := by omega
        rw [if_neg d, if_neg c, if_neg h2]; omega
theorem outsSum_all {n : Nat} : ∀ {as : List Tri}, (∀ i, i < as.length → vtxB n (nthT as i).a = true) → outsSum as n = as.length := by
  intro as
  induction as with
  | nil =>
    intro _
    suffices ∀ m, outsSum [] m = 0 from this n
    intro m
    induction m with
    | zero => rfl
    | succ m ih => rw [outsSum, ih]; simp [outsN]
  | cons t r ih =>
    intro h
    rw [outsSum_cons, ih (fun i hi => h (i + 1) (by simpa using hi))]
    have := h 0 (by simp)
    simp only [vtxB, decide_eq_true_eq] at this
    have h0 : nthT (t :: r) 0 = t := by simp [nthT]
    rw [h0] at this
    rw [if_pos this]
    simp
theorem outsSum_le {as : List Tri} {n m : Nat} (h : n ≤ m) : outsSum as n ≤ outsSum as m := by
  induction h with
  | refl => exact Nat.le_refl _
  | step _ ih => exact Nat.le_trans ih (by rw [outsSum]; omega)

/-- a turn, by the places of both -/
theorem turnV_grid {N : NetD} (ok : NetOK N) {v i k : Nat} (hv : v < N.vs.length) (hi : i < (insO N.as v).length) (hk : k < (outsO N.as v).length) :
    turnV N (nthI (insO N.as v) i) (nthI (outsO N.as v) k) = atV (nthB N.ts (nthT N.vs v).c.toNat).i (nthB N.ts (nthT N.vs v).c.toNat).o (nthB N.ts (nthT N.vs v).c.toNat).cs i k := by
  obtain ⟨a, a1, a2, a3, a4⟩ := idxF_at (p := fun t => decide (t.b = (v : Int))) (k := 0) hi
  obtain ⟨b, b1, b2, b3, b4⟩ := idxF_at (p := fun t => decide (t.a = (v : Int))) (k := 0) hk
  simp only [decide_eq_true_eq] at a3 b3
  rw [Nat.zero_add] at a2 b2
  have ha : nthI (insO N.as v) i = (a : Int) := a2
  have hb : nthI (outsO N.as v) k = (b : Int) := b2
  have hca : cntB N.as a a = i := by unfold cntB; rw [a3]; exact a4
  have hcb : cntA N.as b b = k := by unfold cntA; rw [b3]; exact b4
  rw [ha, hb, turnV_in a1 b1, hca, hcb, bendV]
  simp only [Int.toNat_natCast, a3, b3]
  have g1 : vtxB N.vs.length (v : Int) = true := by simp [vtxB]; omega
  rw [if_neg (by simp [g1]), if_neg (by simp [ok.vt v hv])]

section
variable {Y : Sys} {h : Heap}

def GrI1 (v0 : Value) (B C : Nat) (n : Nat) (as : List Tri) (h0 : Heap) (e : List Value) (h' : Heap) : Prop :=
  ∃ (i : Nat) (v2 v6 v7 v8 v9 v10 v11 v12 v13 v14 v15 v16 v17 : Value), e = [v0, .pointer (some ⟨B, 0, none⟩), v2, .pointer (some ⟨C, 0, none⟩), .int .i64 (outsSum as i : Nat), .int .i64 i, v6, v7, v8, v9, v10, v11, v12, v13, v14, v15, v16, v17] ∧ i ≤ n ∧ Ext h0 h'
def GrI2 (v0 : Value) (B C D : Nat) (n m : Nat) (s6 s7 : Sl) (v4 v5 : Value) (h0 : Heap) (e : List Value) (h' : Heap) : Prop :=
  ∃ (i : Nat) (v2 v10 v11 v12 v13 v14 v15 v16 v17 : Value), e = [v0, .pointer (some ⟨B, 0, none⟩), v2, .pointer (some ⟨C, 0, none⟩), v4, v5, s6.v, s7.v, .pointer (some ⟨D, 0, none⟩), .int .i64 i, v10, v11, v12, v13, v14, v15, v16, v17] ∧ i ≤ n ∧ Ext h0 h'
def GrI3 (v0 : Value) (B C D : Nat) (n m i' : Nat) (s6 s7 : Sl) (v4 v5 : Value) (h0 : Heap) (e : List Value) (h' : Heap) : Prop :=
  ∃ (i : Nat) (v2 v11 v12 v13 v14 v15 v16 v17 : Value), e = [v0, .pointer (some ⟨B, 0, none⟩), v2, .pointer (some ⟨C, 0, none⟩), v4, v5, s6.v, s7.v, .pointer (some ⟨D, 0, none⟩), .int .i64 (i'), .int .i64 i, v11, v12, v13, v14, v15, v16, v17] ∧ i ≤ m ∧ Ext h0 h'

theorem netgrid_spec (L : NetLaw Y) (HA : Y.Has F.rlaw3_NetGrid S_rlaw3_NetGrid) (RA : Y.Has F.rref6_At S_rref6_At) (E : ErrSys Y) (hg : hc h E.gb 0 = some E.hv) {sv sa st : Sl} {N : NetD}
    (r : NetH h sv sa st N) {R : Value → Heap → Prop} (hr : ∀ h', Ext h h' → R (.bool true) h') : CallP Y F.rlaw3_NetGrid [netV sv sa st] h R := by
  have lv := r.rv.len
  have la := r.ra.len
  have lt := r.rt.len
  refine .of_has HA rfl ?_
  simp [S_rlaw3_NetGrid, FnS.wp, netV]
  refine ef_new_box ?_
  intro B hB gB bB eB
  have cB : ∀ g, Ext g h → Ext g hB := fun g e => Mod.trans e eB
  simp
  refine known3_spec L RA E (eB.hc hg (fun h => h)) ?_
  intro h1 e1
  have c_h1 : ∀ g, Ext g hB → Ext g h1 := fun g e => Mod.trans e e1
  have x1 := eB.trans e1
  simp (config := { maxDischargeDepth := 60 }) [cB, bB.sk, bB.rk, c_h1]
  refine may_spec L (r.ext x1) ?_
  intro h2 e2
  have c_h2 : ∀ g, Ext g h1 → Ext g h2 := fun g e => Mod.trans e e2
  have x2 := x1.trans e2
  by_cases c1 : mayD N = true
  rotate_left
  · simp [c1]
    exact hr _ x2
  obtain ⟨cf, ok⟩ := may_ok c1
  have ba := ok.ba
  have bv := ok.bv
  simp (config := { maxDischargeDepth := 60 }) [cB, bB.sk, bB.rk, c_h1, c_h2, c1]
  refine toF_spec L (r.ext x2) cf ?_
  intro h3 a1 a2 a3 e3 r3
  have c_h3 : ∀ g, Ext g h2 → Ext g h3 := fun g e => Mod.trans e e3
  simp [netV]
  refine new_store (vs := #[a1.v, a2.v, a3.v]) rfl rfl (by simp) ?_
  intro C hCp gC bCp eCp stC
  have cCp : ∀ g, Ext g h3 → Ext g hCp := fun g e => Mod.trans e eCp
  simp (config := { maxDischargeDepth := 60 }) [cB, bB.sk, bB.rk, c_h1, c_h2, c_h3, cCp]
  refine stC _ ?_
  intro hC bC eC
  clear cCp stC bCp eCp
  have cC : ∀ g, Ext g h3 → Ext g hC := fun g e => Mod.trans e eC
  have x3 := (x2.trans e3).trans eC
  have r3 := r3.ext eC
  simp
  refine wp_loop' (GrI1 (netV sv sa st) B C sv.n N.as hC) (fun e _ => sv.n - argI e 5) ⟨0, _, _, _, _, _, _, _, _, _, _, _, _, _, rfl, by omega, Mod.refl _⟩ ?_
  rintro e h4 ⟨i, v2, v6, v7, v8, v9, v10, v11, v12, v13, v14, v15, v16, v17, rfl, hi, x4⟩
  have c_h4 : ∀ g, Ext g hC → Ext g h4 := fun g e => Mod.trans e x4
  have x34 := x3.trans x4
  have hall := outsSum_all (n := N.vs.length) (as := N.as) fun i hi => (ok.arcs i hi).1
  by_cases c : i < sv.n
  · have c' : (i : Int) < sv.n := by omega
    have ci : i < N.vs.length := by omega
    have w1 : IntKind.i64.wrap ((i : Int) + 1) = (i : Int) + 1 := i64_wrap (by omega)
    have g2 := ok.vt i ci
    have hm := ok.meet i ci
    simp only [vtxB, decide_eq_true_eq] at g2
    obtain ⟨t, ht⟩ : ∃ t : Nat, (nthT N.vs i).c = t := ⟨(nthT N.vs i).c.toNat, by omega⟩
    have t1 : (t : Int) < st.n := by omega
    have t2 : t < N.ts.length := by omega
    rw [ht, Int.toNat_natCast] at hm
    simp (config := { maxDischargeDepth := 60 }) [cB, bB.sk, bB.rk, c_h1, c_h2, c_h3, cC, bC.sk, bC.rk, c_h4, sem_idxa r.rv.ok, sem_idxa r.rt.ok, r.rv.s2, c', ci, w1, ht, t1]
    refine nins_spec L.N2 (r3.ext x4) ba ?_
    intro h5 s5 e5 o5 _
    have c_h5 : ∀ g, Ext g h4 → Ext g h5 := fun g e => Mod.trans e e5
    have hv1 : vtxB N.vs.length (i : Int) = true := by simp [vtxB]; omega
    rw [if_pos hv1] at o5
    simp (config := { maxDischargeDepth := 60 }) [cB, bB.sk, bB.rk, c_h1, c_h2, c_h3, cC, bC.sk, bC.rk, c_h4, sem_idxa r.rv.ok, sem_idxa r.rt.ok, r.rv.s2, c', ci, w1, ht, t1, c_h5]
    refine nouts_spec L.N2 (r3.ext (x4.trans e5)) ba ?_
    intro h6 s6 e6 o6 _
    have c_h6 : ∀ g, Ext g h5 → Ext g h6 := fun g e => Mod.trans e e6
    rw [if_pos hv1] at o6
    have x6 := (x4.trans e5).trans e6
    obtain ⟨u, rdt, _, ru⟩ := (r.ext (x3.trans x6)).rt.rd (i := t) t2
    have sr : ∀ h', Ext h6 h' → rd h' st.b (st.o + t * 3) 3 = some [.int .i64 (nthB N.ts t).i, .int .i64 (nthB N.ts t).o, u.v] := fun h' e => e.rd rdt (fun h => h)
    have q5 := (o5.mod e6 (fun _ h => h)).row64
    have q6 := o6.row64
    have l5 := q5.len
    have l6 := q6.len
    rw [insO_lenN] at l5
    rw [outsO_lenN] at l6
    have hbig : (nthB N.ts t).cs.length ≤ 1000000 := by have := (few_small cf).2.2.2.1 t t2; omega
    have hul := ru.len
    have hsum : outsSum N.as (i + 1) = outsSum N.as i + outsN N.as i := rfl
    have hle := outsSum_le (as := N.as) (n := i + 1) (m := N.vs.length) (by omega)
    have w2 : IntKind.i64.wrap ((outsSum N.as i : Int) + (s6.n : Int)) = ((outsSum N.as (i + 1) : Nat) : Int) := by rw [i64_wrap (by omega)]; omega
    have k1 : ((s5.n : Int) = (nthB N.ts t).i) = True := by simp; omega
    have k2 : ((s6.n : Int) = (nthB N.ts t).o) = True := by simp; omega
    have grid := fun (p q : Nat) (hp : p < s5.n) (hq : q < s6.n) => turnV_grid ok ci (i := p) (k := q) (by rw [insO_lenN]; omega) (by rw [outsO_lenN]; omega)
    simp only [ht, Int.toNat_natCast] at grid
    simp (config := { maxDischargeDepth := 60 }) [cB, bB.sk, bB.rk, c_h1, c_h2, c_h3, cC, bC.sk, bC.rk, c_h4, sem_idxa r.rv.ok, sem_idxa r.rt.ok, r.rv.s2, c', ci, w1, ht, t1, c_h5, c_h6, sr]
    refine ⟨?_, ?_⟩
    · refine to_spec' L.To2 ru (by omega) ?_
      intro h7 w e7 rw7 _
      have c_h7 : ∀ g, Ext g h6 → Ext g h7 := fun g e => Mod.trans e e7
      simp [tabV]
      refine new_store (vs := #[.int .i64 (nthB N.ts t).i, .int .i64 (nthB N.ts t).o, w.v]) rfl rfl (by simp) ?_
      intro D hDp gD bDp eDp stD
      have cDp : ∀ g, Ext g h7 → Ext g hDp := fun g e => Mod.trans e eDp
      simp (config := { maxDischargeDepth := 60 }) [cB, bB.sk, bB.rk, c_h1, c_h2, c_h3, cC, bC.sk, bC.rk, c_h4, sem_idxa r.rv.ok, sem_idxa r.rt.ok, r.rv.s2, c', ci, w1, ht, t1, c_h5, c_h6, c_h7, cDp]
      refine stD _ ?_
      intro hD bD eD
      clear cDp stD bDp eDp
      have cD : ∀ g, Ext g h7 → Ext g hD := fun g e => Mod.trans e eD
      have x8 := (x6.trans e7).trans eD
      have rw8 := rw7.ext eD
      have q5 := q5.ext (e7.trans eD)
      have q6 := q6.ext (e7.trans eD)
      simp (config := { maxDischargeDepth := 60 }) [bD.hc, k1, k2, w2]
      refine wp_loop' (GrI2 (netV sv sa st) B C D s5.n s6.n s5 s6 (.int .i64 ((outsSum N.as (i + 1) : Nat) : Int)) (.int .i64 i) hD) (fun e _ => s5.n - argI e 9) ⟨0, _, _, _, _, _, _, _, _, _, rfl, by omega, Mod.refl _⟩ ?_
      rintro e h9 ⟨p, v2, v10, v11, v12, v13, v14, v15, v16, v17, rfl, hp, x9⟩
      by_cases d : p < s5.n
      · have d' : (p : Int) < s5.n := by omega
        have dp : p < (insO N.as i).length := by rw [insO_lenN]; omega
        have w3 : IntKind.i64.wrap ((p : Int) + 1) = (p : Int) + 1 := i64_wrap (by omega)
        simp [d']
        refine wp_loop' (GrI3 (netV sv sa st) B C D s5.n s6.n p s5 s6 (.int .i64 ((outsSum N.as (i + 1) : Nat) : Int)) (.int .i64 i) h9) (fun e _ => s6.n - argI e 10) ⟨0, _, _, _, _, _, _, _, _, rfl, by omega, Mod.refl _⟩ ?_
        rintro e h10 ⟨q, v2, v11, v12, v13, v14, v15, v16, v17, rfl, hq, x10⟩
        by_cases f : q < s6.n
        · have f' : (q : Int) < s6.n := by omega
          have fq : q < (outsO N.as i).length := by rw [outsO_lenN]; omega
          have w4 : IntKind.i64.wrap ((q : Int) + 1) = (q : Int) + 1 := i64_wrap (by omega)
          have z10 := x9.trans x10
          have y10 := x8.trans z10
          simp [f', rd_blk (bC.ext y10), sem_idxa q5.ok, sem_idxa q6.ok, d', (q5.ext z10).val p dp, (q6.ext z10).val q fq, rd_blk (bD.ext z10)]
          refine nturn_spec L.N2 L.T (r3.ext y10) ba ?_
          intro h11 e11
          simp [rd_blk (bD.ext (z10.trans e11))]
          refine at_spec L.T (rw8.ext (z10.trans e11)) ?_
          intro h12 e12
          simp [grid p q d f, w4]
          refine ⟨⟨q + 1, _, _, _, _, _, _, _, _, rfl, by omega, (x10.trans e11).trans e12⟩, by simp [argI]; omega⟩
        · have f' : ¬ (q : Int) < s6.n := by omega
          simp [f', w3]
          refine ⟨⟨p + 1, _, _, _, _, _, _, _, _, _, rfl, by omega, x9.trans x10⟩, by simp [argI]; omega⟩
      · have d' : ¬ (p : Int) < s5.n := by omega
        simp [d', w1]
        refine ⟨⟨i + 1, _, _, _, _, _, _, _, _, _, _, _, _, _, rfl, by omega, x8.trans x9⟩, by simp [argI]; omega⟩
    · refine ef_new_box ?_
      intro D hD0 gD bD0 eD0
      have c_hD0 : ∀ g, Ext g h6 → Ext g hD0 := fun g e => Mod.trans e eD0
      simp (config := { maxDischargeDepth := 60 }) [cB, bB.sk, bB.rk, c_h1, c_h2, c_h3, cC, bC.sk, bC.rk, c_h4, sem_idxa r.rv.ok, sem_idxa r.rt.ok, r.rv.s2, c', ci, w1, ht, t1, c_h5, c_h6, c_hD0, sr]
      refine to_spec' L.To2 (ru.ext eD0) (by omega) ?_
      intro h7 w e7 rw7 hw
      simp [tabV]
      refine ef_store_box (bD0.ext e7) rfl rfl (by simp) ?_
      intro hD bD mD
      have lD := bD0.lt
      have x8 : Ext hC hD := Mod.ext ((x6.trans eD0).trans e7) mD (fun j hj => by have := x6.size; omega)
      have rw8 := rw7.mod mD (fun hne hj => by have := hw hne; omega)
      have z8 : Ext h6 hD := Mod.ext (eD0.trans e7) mD (fun j hj => by omega)
      have q5 := q5.ext z8
      have q6 := q6.ext z8
      simp (config := { maxDischargeDepth := 60 }) [bD.hc, k1, k2, w2]
      refine wp_loop' (GrI2 (netV sv sa st) B C D s5.n s6.n s5 s6 (.int .i64 ((outsSum N.as (i + 1) : Nat) : Int)) (.int .i64 i) hD) (fun e _ => s5.n - argI e 9) ⟨0, _, _, _, _, _, _, _, _, _, rfl, by omega, Mod.refl _⟩ ?_
      rintro e h9 ⟨p, v2, v10, v11, v12, v13, v14, v15, v16, v17, rfl, hp, x9⟩
      by_cases d : p < s5.n
      · have d' : (p : Int) < s5.n := by omega
        have dp : p < (insO N.as i).length := by rw [insO_lenN]; omega
        have w3 : IntKind.i64.wrap ((p : Int) + 1) = (p : Int) + 1 := i64_wrap (by omega)
        simp [d']
        refine wp_loop' (GrI3 (netV sv sa st) B C D s5.n s6.n p s5 s6 (.int .i64 ((outsSum N.as (i + 1) : Nat) : Int)) (.int .i64 i) h9) (fun e _ => s6.n - argI e 10) ⟨0, _, _, _, _, _, _, _, _, rfl, by omega, Mod.refl _⟩ ?_
        rintro e h10 ⟨q, v2, v11, v12, v13, v14, v15, v16, v17, rfl, hq, x10⟩
        by_cases f : q < s6.n
        · have f' : (q : Int) < s6.n := by omega
          have fq : q < (outsO N.as i).length := by rw [outsO_lenN]; omega
          have w4 : IntKind.i64.wrap ((q : Int) + 1) = (q : Int) + 1 := i64_wrap (by omega)
          have z10 := x9.trans x10
          have y10 := x8.trans z10
          simp [f', rd_blk (bC.ext y10), sem_idxa q5.ok, sem_idxa q6.ok, d', (q5.ext z10).val p dp, (q6.ext z10).val q fq, rd_blk (bD.ext z10)]
          refine nturn_spec L.N2 L.T (r3.ext y10) ba ?_
          intro h11 e11
          simp [rd_blk (bD.ext (z10.trans e11))]
          refine at_spec L.T (rw8.ext (z10.trans e11)) ?_
          intro h12 e12
          simp [grid p q d f, w4]
          refine ⟨⟨q + 1, _, _, _, _, _, _, _, _, rfl, by omega, (x10.trans e11).trans e12⟩, by simp [argI]; omega⟩
        · have f' : ¬ (q : Int) < s6.n := by omega
          simp [f', w3]
          refine ⟨⟨p + 1, _, _, _, _, _, _, _, _, _, rfl, by omega, x9.trans x10⟩, by simp [argI]; omega⟩
      · have d' : ¬ (p : Int) < s5.n := by omega
        simp [d', w1]
        refine ⟨⟨i + 1, _, _, _, _, _, _, _, _, _, _, _, _, _, rfl, by omega, x8.trans x9⟩, by simp [argI]; omega⟩
  have c' : ¬ (i : Int) < sv.n := by omega
  obtain rfl : i = sv.n := by omega
  rw [lv] at hall
  simp (config := { maxDischargeDepth := 60 }) [cB, bB.sk, bB.rk, c_h1, c_h2, c_h3, cC, bC.sk, bC.rk, c_h4, sem_idxa r.rv.ok, sem_idxa r.rt.ok, r.rv.s2, c', hall, la]
  exact hr _ x34
end
end Go.Rm

import Derived.Test.YtojpokpdfbgelaaDoorRLaw6b

/- The laws of graphs: GraphTypes. -/
set_option linter.unusedSimpArgs false
set_option linter.unusedVariables false
namespace Go.Rm

theorem atV_in {t : Tab} (h : (tabWr t).2 = 0) {cs : List Int} (hl : cs.length = t.cs.length) {i k : Nat} (h1 : (i : Int) < t.i) (h2 : (k : Int) < t.o) : atV t.i t.o cs i k = nthI cs ((i : Int) * t.o + k).toNat := by
  obtain ⟨a1, a2, a3, a4, a5, _, _⟩ := tab_ok (ins := t.i) (outs := t.o) (cs := t.cs) h
  have e : (sidesW t.i t.o).2 = 0 := by
    unfold sidesW
    rw [if_neg (by omega), if_neg (by omega)]
    rfl
  have w := (place_wrap (i := (i : Int)) (k := (k : Int)) (by omega) h1 (by omega) h2 a2 a4).2.2.2
  unfold atV
  rw [if_neg, if_pos]
  · rw [hl]; omega
  · intro q
    rcases q with q | q | q | q | q
    · omega
    · omega
    · omega
    · omega
    · exact q e
/-- which turns cost otherwise behind a bend -/
theorem turn_bent {N : NetD} (ok : NetOK N) {t p i o A B : Nat} {c : Int} (ht : t < N.ts.length) (hi : (nthB N.ts t).i = i) (ho : (nthB N.ts t).o = o) (hp : p < (nthB N.ts t).cs.length) (h1 : A < i) (h2 : B < o) (h3 : A * o + B = p)
    (hu : ∀ a b : Nat, b < o → a * o + b = p → a = A ∧ b = B) (hc : weightB c = true) {v a b : Nat} (hv : v < N.vs.length) (ha : a < (insO N.as v).length) (hb : b < (outsO N.as v).length) :
    turnV (bendN N t A B c) (nthI (insO N.as v) a) (nthI (outsO N.as v) b) = if (nthT N.vs v).c = t ∧ a = A ∧ b = B then c else turnV N (nthI (insO N.as v) a) (nthI (outsO N.as v) b) := by
  obtain ⟨_, e1⟩ := bendN_at ok ht hi ho h1 h2 h3 hc
  have ok1 := bendN_ok (t := t) (i := A) (k := B) (c := c) ok
  have g0 := turnV_grid ok hv ha hb
  rw [e1] at ok1 ⊢
  have g1 := turnV_grid ok1 (v := v) (i := a) (k := b) hv ha hb
  simp only at g1
  rw [g1, g0, nthB_set ht]
  have hvt := ok.vt v hv
  simp only [vtxB, decide_eq_true_eq] at hvt
  have hm := ok.meet v hv
  by_cases q : (nthT N.vs v).c.toNat = t
  · have q' : (nthT N.vs v).c = (t : Int) := by omega
    rw [q] at hm
    have ha' : (a : Int) < (nthB N.ts t).i := by rw [hm.2.2.1]; rw [insO_lenN] at ha; omega
    have hb' : (b : Int) < (nthB N.ts t).o := by rw [hm.2.2.2]; rw [outsO_lenN] at hb; omega
    rw [if_pos q, q]
    simp only
    rw [atV_in (ok.tab t ht) (by simp) ha' hb', atV_in (ok.tab t ht) rfl ha' hb', nthI_set hp]
    have hab : ((a : Int) * (nthB N.ts t).o + (b : Int)).toNat = a * o + b := by
      rw [ho]
      have : ((a : Int) * (o : Int) + (b : Int)) = ((a * o + b : Nat) : Int) := by push_cast; rfl
      rw [this, Int.toNat_natCast]
    rw [hab]
    by_cases z : a * o + b = p
    · obtain ⟨z1, z2⟩ := hu a b (by omega) z
      rw [if_pos z, if_pos ⟨q', z1, z2⟩]
    · rw [if_neg z, if_neg]
      rintro ⟨_, z1, z2⟩
      rw [z1, z2] at z
      exact z h3
  · have q' : ¬ ((nthT N.vs v).c = (t : Int)) := by omega
    rw [if_neg q, if_neg (fun h => q' h.1)]

section
variable {Y : Sys} {h : Heap}

def GtI1 (v0 v1 v2 : Value) (c : Int) (B X p t pp n : Nat) (h0 : Heap) (e : List Value) (h' : Heap) : Prop :=
  ∃ (i : Nat) (v5 v9 v12 v13 v14 v15 v16 v17 v18 v19 v20 v21 v22 v23 v24 v25 : Value), e = [v0, v1, v2, .int .i64 c, .pointer (some ⟨B, 0, none⟩), v5, .int .i64 t, .pointer (some ⟨X, 0, none⟩), .pointer (some ⟨p, 0, none⟩), v9, .int .i64 pp, .int .i64 i, v12, v13, v14, v15, v16, v17, v18, v19, v20, v21, v22, v23, v24, v25] ∧ i ≤ n ∧ Ext h0 h'
def GtI2 (v0 v1 v2 : Value) (c : Int) (B X p t pp n : Nat) (v : Nat) (s s' : Sl) (h0 : Heap) (e : List Value) (h' : Heap) : Prop :=
  ∃ (i : Nat) (v5 v9 v15 v16 v17 v18 v19 v20 v21 v22 v23 v24 v25 : Value), e = [v0, v1, v2, .int .i64 c, .pointer (some ⟨B, 0, none⟩), v5, .int .i64 t, .pointer (some ⟨X, 0, none⟩), .pointer (some ⟨p, 0, none⟩), v9, .int .i64 pp, .int .i64 v, s.v, s'.v, .int .i64 i, v15, v16, v17, v18, v19, v20, v21, v22, v23, v24, v25] ∧ i ≤ n ∧ Ext h0 h'
def GtI3 (v0 v1 v2 : Value) (c : Int) (B X p t pp n : Nat) (v a : Nat) (s s' : Sl) (h0 : Heap) (e : List Value) (h' : Heap) : Prop :=
  ∃ (i : Nat) (v5 v9 v16 v17 v18 v19 v20 v21 v22 v23 v24 v25 : Value), e = [v0, v1, v2, .int .i64 c, .pointer (some ⟨B, 0, none⟩), v5, .int .i64 t, .pointer (some ⟨X, 0, none⟩), .pointer (some ⟨p, 0, none⟩), v9, .int .i64 pp, .int .i64 v, s.v, s'.v, .int .i64 a, .int .i64 i, v16, v17, v18, v19, v20, v21, v22, v23, v24, v25] ∧ i ≤ n ∧ Ext h0 h'

set_option maxHeartbeats 1000000 in
theorem graphtypes_spec (L : GrLaw Y) (HA : Y.Has F.rlaw6_GraphTypes S_rlaw6_GraphTypes) (E : ErrSys Y) (hg : hc h E.gb 0 = some E.hv) {sv sa st : Sl} {N : NetD} (r : NetH h sv sa st N) {x y : Nat} (hx : x < 65536) (hy : y < 65536) {c : Int}
    {R : Value → Heap → Prop} (hr : ∀ h', Ext h h' → R (.bool true) h') : CallP Y F.rlaw6_GraphTypes [netV sv sa st, .int .u16 x, .int .u16 y, .int .i64 c] h R := by
  have G := L.G
  have lv := r.rv.len
  have la := r.ra.len
  have lt := r.rt.len
  refine .of_has HA rfl ?_
  simp [S_rlaw6_GraphTypes, FnS.wp, netV]
  refine ef_new_box ?_
  intro B hB gB bB eB
  have cB : ∀ g, Ext g h → Ext g hB := fun g e => Mod.trans e eB
  simp
  refine known6_spec G E (eB.hc hg (fun h => h)) ?_
  intro h1 e1
  have c_h1 : ∀ g, Ext g hB → Ext g h1 := fun g e => Mod.trans e e1
  have x1 := eB.trans e1
  simp (config := { maxDischargeDepth := 60 }) [cB, bB.sk, bB.rk, c_h1]
  refine mayS_spec L.NM (r.ext x1) ?_
  intro h2 e2
  have c_h2 : ∀ g, Ext g h1 → Ext g h2 := fun g e => Mod.trans e e2
  have x2 := x1.trans e2
  by_cases c1 : mayD N = true
  rotate_left
  · simp [c1]
    exact hr _ x2
  obtain ⟨cf, ok⟩ := may_ok c1
  by_cases c2 : st.n = 0
  · simp (config := { maxDischargeDepth := 60 }) [cB, bB.sk, bB.rk, c_h1, c_h2, c1, c2]
    exact hr _ x2
  simp (config := { maxDischargeDepth := 60 }) [cB, bB.sk, bB.rk, c_h1, c_h2, c1, c2]
  refine rweight_spec G.RT.Weight ?_
  cases c3 : weightB c with
  | false =>
    simp
    exact hr _ x2
  | true =>
  have w0 : IntKind.i64.wrap (x : Int) = x := i64_wrap (by omega)
  have w1 : IntKind.i64.wrap (y : Int) = y := i64_wrap (by omega)
  have hne2 : (st.n : Int) ≠ 0 := by omega
  have ht2 : (x : Int).tmod st.n = ((x % st.n : Nat) : Int) := by rw [Int.tmod_eq_emod_of_nonneg (by omega)]; omega
  have hty : x % st.n < st.n := Nat.mod_lt _ (by omega)
  obtain ⟨t, htd⟩ : ∃ t, t = x % st.n := ⟨_, rfl⟩
  rw [← htd] at ht2 hty
  have htl : t < N.ts.length := by omega
  have htn : (t : Int) < st.n := by omega
  obtain ⟨u, rdt0, _, ru0⟩ := r.rt.rd (i := t) htl
  have rdt := x2.rd rdt0 (fun h => h)
  have hul := ru0.len
  simp (config := { maxDischargeDepth := 60 }) [cB, bB.sk, bB.rk, c_h1, c_h2, w0, ib_rem hne2, ht2, sem_idxa r.rt.ok, htn, rdt]
  refine new_store (vs := #[.int .i64 (nthB N.ts t).i, .int .i64 (nthB N.ts t).o, u.v]) rfl rfl (by simp) ?_
  intro X hXp gX bXp eXp stX
  have cXp : ∀ g, Ext g h2 → Ext g hXp := fun g e => Mod.trans e eXp
  simp (config := { maxDischargeDepth := 60 }) [cB, bB.sk, bB.rk, c_h1, c_h2, cXp]
  refine stX _ ?_
  intro hX bX eX
  clear cXp stX bXp eXp
  have cX : ∀ g, Ext g h2 → Ext g hX := fun g e => Mod.trans e eX
  have xX := x2.trans eX
  simp (config := { maxDischargeDepth := 60 }) [cB, bB.sk, bB.rk, c_h1, c_h2, cX, bX.sk, bX.rk]
  refine toS_spec G.NT (r.ext xX) cf ?_
  intro h3 a1 a2 a3 e3 r3
  have c_h3 : ∀ g, Ext g hX → Ext g h3 := fun g e => Mod.trans e e3
  have x3 := xX.trans e3
  simp
  refine gnew_spec G.GN G.T r3 (fun u h4 _ hne _ => absurd (by rw [netW_ok ok]; rfl) hne) ?_
  intro h4 p S e4 _ g4 hS
  have c_h4 : ∀ g, Ext g h3 → Ext g h4 := fun g e => Mod.trans e e4
  have x4 := x3.trans e4
  have z3 := e3.size
  by_cases c5 : u.n = 0
  · simp (config := { maxDischargeDepth := 60 }) [cB, bB.sk, bB.rk, c_h1, c_h2, cX, bX.sk, bX.rk, c_h3, c_h4, c5]
    exact hr _ x4
  have hne3 : (u.n : Int) ≠ 0 := by omega
  have ht3 : (y : Int).tmod u.n = ((y % u.n : Nat) : Int) := by rw [Int.tmod_eq_emod_of_nonneg (by omega)]; omega
  have hzu : y % u.n < u.n := Nat.mod_lt _ (by omega)
  obtain ⟨pp, hpp⟩ : ∃ pp, pp = y % u.n := ⟨_, rfl⟩
  rw [← hpp] at ht3 hzu
  have hpl : pp < (nthB N.ts t).cs.length := by omega
  obtain ⟨i, o, A, Bo, hi, ho, ho0, j1, j2, j3, hq, hm, hAp, huniq⟩ := tab_place (ok.tab t htl) hpl
  obtain ⟨b1, b2⟩ := bendN_at ok htl hi ho j1 j2 j3 c3
  have hoi : (nthB N.ts t).o ≠ 0 := by omega
  have hbig : (nthB N.ts t).cs.length ≤ 300 := (few_small cf).2.2.2.1 t htl
  have w3 : IntKind.i64.wrap (A : Int) = (A : Int) := i64_wrap (by omega)
  simp (config := { maxDischargeDepth := 60 }) [cB, bB.sk, bB.rk, c_h1, c_h2, cX, bX.sk, bX.rk, c_h3, c_h4, c5, w1, ib_rem hne3, ht3, ib_quo hoi, ib_rem hoi, hq, hm, w3]
  refine gbend_spec G.GB G.T g4 ?_
  intro v h5 S5 m5 hS5 _ g5 hv5
  rw [b1] at hv5
  have := hv5.here.nil rfl
  subst this
  have lX := bX.lt
  have y5 : Ext hX h5 := Mod.ext (e3.trans e4) m5 (fun b hb => by have := hS b hb; omega)
  have x5 := xX.trans y5
  have bX5 := bX.ext y5
  have bB5 := bB.ext (((e1.trans e2).trans eX).trans y5)
  have ok5 := bendN_ok (t := t) (i := A) (k := Bo) (c := c) ok
  have hasN : (bendN N t A Bo c).as = N.as ∧ (bendN N t A Bo c).vs = N.vs := by rw [b2]; exact ⟨rfl, rfl⟩
  have bv := ok.bv
  have ba := ok.ba
  simp
  refine wp_loop' (GtI1 (netV sv sa st) (.int .u16 x) (.int .u16 y) c B X p t pp sv.n h5) (fun e _ => sv.n - argI e 11) ⟨0, _, _, _, _, _, _, _, _, _, _, _, _, _, _, _, _, rfl, by omega, Mod.refl _⟩ ?_
  rintro e h6 ⟨v, v5, v9, v12, v13, v14, v15, v16, v17, v18, v19, v20, v21, v22, v23, v24, v25, rfl, hv, e6⟩
  by_cases d1 : v < sv.n
  · have d1' : (v : Int) < sv.n := by omega
    have dv : v < N.vs.length := by omega
    have w4 : IntKind.i64.wrap ((v : Int) + 1) = (v : Int) + 1 := i64_wrap (by omega)
    have g6 := g5.ext e6
    simp [(bB5.ext e6).hc, d1']
    refine gins_spec G.Ins G.vert G.CI g6 (by rw [hasN.1]; omega) ?_
    intro h7 s7 e7 o7 _
    rw [hasN.1, hasN.2, if_pos (by simp [vtxB]; omega)] at o7
    simp
    refine gouts_spec L.Outs G.vert G.CI (g6.ext e7) (by rw [hasN.1]; omega) ?_
    intro h8 s8 e8 o8 _
    rw [hasN.1, hasN.2, if_pos (by simp [vtxB]; omega)] at o8
    have q7 := (o7.ext' e8).row64
    have q8 := o8.row64
    have l7 := q7.len
    have l8 := q8.len
    have k7 := insO_len (as := N.as) (v := v)
    have k8 := outsO_len (as := N.as) (v := v)
    have e68 := (e6.trans e7).trans e8
    simp
    refine wp_loop' (GtI2 (netV sv sa st) (.int .u16 x) (.int .u16 y) c B X p t pp s7.n v s7 s8 h8) (fun e _ => s7.n - argI e 14) ⟨0, _, _, _, _, _, _, _, _, _, _, _, _, _, rfl, by omega, Mod.refl _⟩ ?_
    rintro e h9 ⟨a, v5, v9, v15, v16, v17, v18, v19, v20, v21, v22, v23, v24, v25, rfl, ha, e9⟩
    by_cases d2 : a < s7.n
    · have d2' : (a : Int) < s7.n := by omega
      have w5 : IntKind.i64.wrap ((a : Int) + 1) = (a : Int) + 1 := i64_wrap (by omega)
      simp [d2']
      refine wp_loop' (GtI3 (netV sv sa st) (.int .u16 x) (.int .u16 y) c B X p t pp s8.n v a s7 s8 h9) (fun e _ => s8.n - argI e 15) ⟨0, _, _, _, _, _, _, _, _, _, _, _, _, rfl, by omega, Mod.refl _⟩ ?_
      rintro e h10 ⟨b, v5, v9, v16, v17, v18, v19, v20, v21, v22, v23, v24, v25, rfl, hb, e10⟩
      by_cases d3 : b < s8.n
      · have d3' : (b : Int) < s8.n := by omega
        have w6 : IntKind.i64.wrap ((b : Int) + 1) = (b : Int) + 1 := i64_wrap (by omega)
        have e910 := e9.trans e10
        have e610 := e68.trans e910
        have bB10 := bB5.ext e610
        have bX10 := bX5.ext e610
        have law := turn_bent ok htl hi ho hpl j1 j2 j3 huniq c3 dv (a := a) (b := b) (by omega) (by omega)
        have r10 := r.ext (x5.trans e610)
        simp [d3', rd_blk bB10, sem_idxa q7.ok, sem_idxa q8.ok, d2', (q7.ext e910).val a (by omega), (q8.ext e910).val b (by omega)]
        refine rturn_spec L.R2 G.RT r10 ok ?_
        intro h11 e11
        have e611 := e610.trans e11
        have bB11 := bB5.ext e611
        have bX11 := bX5.ext e611
        have r11 := r10.ext e11
        have e911 := e910.trans e11
        have ca := (q7.ext e911).val a (by omega)
        have cb := (q8.ext e911).val b (by omega)
        have fin : ∀ (w : Int) (K : Value → Heap → Prop), w = turnV (bendN N t A Bo c) (nthI (insO N.as v) a) (nthI (outsO N.as v) b) → (∀ h12, Ext h11 h12 → K (.int .i64 w) h12) → CallP Y F.graph_Graph_Turn [.pointer (some ⟨p, 0, none⟩), .int .i64 (nthI (insO N.as v) a), .int .i64 (nthI (outsO N.as v) b)] h11 K := by
          intro w K hw hK
          refine gturn_spec G.Turn G.GS.arc G.T (g5.ext e611) ok5 ?_
          intro h12 e12
          rw [← hw]
          exact hK h12 e12
        by_cases k1 : (nthT N.vs v).c = (t : Int)
        rotate_left
        · have k1' : ((nthT N.vs v).c = (t : Int)) = False := by simp [k1]
          rw [if_neg (fun h => k1 h.1)] at law
          simp [bB11.hc, sem_idxa r11.rv.ok, d1', r11.rv.v2 v dv, k1', sem_idxa q7.ok, sem_idxa q8.ok, d2', d3', ca, cb]
          refine fin _ _ law.symm ?_
          intro h12 e12
          simp [w6]
          refine ⟨⟨b + 1, _, _, _, _, _, _, _, _, _, _, _, _, rfl, by omega, (e10.trans e11).trans e12⟩, by simp [argI]; omega⟩
        have k1' : ((nthT N.vs v).c = (t : Int)) = True := by simp [k1]
        by_cases k2 : a = A
        rotate_left
        · have k2' : ((a : Int) = (A : Int)) = False := by simp; omega
          have k2'' : (a = A) = False := by simp [k2]
          rw [if_neg (fun h => k2 h.2.1)] at law
          simp [bB11.hc, bX11.hc, sem_idxa r11.rv.ok, d1', r11.rv.v2 v dv, k1', ib_quo hoi, hq, w3, k2', k2'', sem_idxa q7.ok, sem_idxa q8.ok, d2', d3', ca, cb]
          refine fin _ _ law.symm ?_
          intro h12 e12
          simp [w6]
          refine ⟨⟨b + 1, _, _, _, _, _, _, _, _, _, _, _, _, rfl, by omega, (e10.trans e11).trans e12⟩, by simp [argI]; omega⟩
        have k2'' : (a = A) = True := by simp [k2]
        have k2' : ((a : Int) = (A : Int)) = True := by simp [k2]
        by_cases k3 : b = Bo
        rotate_left
        · have k3'' : (b = Bo) = False := by simp [k3]
          have k3' : ((b : Int) = (Bo : Int)) = False := by simp; omega
          rw [if_neg (fun h => k3 h.2.2)] at law
          simp [bB11.hc, bX11.hc, sem_idxa r11.rv.ok, d1', r11.rv.v2 v dv, k1', ib_quo hoi, ib_rem hoi, hq, hm, w3, k2', k2'', k3', k3'', sem_idxa q7.ok, sem_idxa q8.ok, d2', d3', ca, cb]
          refine fin _ _ law.symm ?_
          intro h12 e12
          simp [w6]
          refine ⟨⟨b + 1, _, _, _, _, _, _, _, _, _, _, _, _, rfl, by omega, (e10.trans e11).trans e12⟩, by simp [argI]; omega⟩
        have k3'' : (b = Bo) = True := by simp [k3]
        have k3' : ((b : Int) = (Bo : Int)) = True := by simp [k3]
        rw [if_pos ⟨k1, k2, k3⟩] at law
        simp [bB11.hc, bX11.hc, sem_idxa r11.rv.ok, d1', r11.rv.v2 v dv, k1', ib_quo hoi, ib_rem hoi, hq, hm, w3, k2', k2'', k3', k3'', sem_idxa q7.ok, sem_idxa q8.ok, d2', d3', ca, cb]
        refine fin _ _ law.symm ?_
        intro h12 e12
        simp [w6]
        refine ⟨⟨b + 1, _, _, _, _, _, _, _, _, _, _, _, _, rfl, by omega, (e10.trans e11).trans e12⟩, by simp [argI]; omega⟩
      · have d3' : ¬ (b : Int) < s8.n := by omega
        simp [d3', w5]
        refine ⟨⟨a + 1, _, _, _, _, _, _, _, _, _, _, _, _, _, rfl, by omega, e9.trans e10⟩, by simp [argI]; omega⟩
    · have d2' : ¬ (a : Int) < s7.n := by omega
      simp [d2', w4]
      refine ⟨⟨v + 1, _, _, _, _, _, _, _, _, _, _, _, _, _, _, _, _, rfl, by omega, e68.trans e9⟩, by simp [argI]; omega⟩
  · have d1' : ¬ (v : Int) < sv.n := by omega
    simp [(bB5.ext e6).hc, d1']
    exact hr _ (x5.trans e6)
end
end Go.Rm

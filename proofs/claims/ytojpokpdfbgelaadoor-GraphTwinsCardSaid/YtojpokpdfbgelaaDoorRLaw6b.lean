import Derived.Test.YtojpokpdfbgelaaDoorRLaw6

/- The laws of graphs: GraphBack, GraphTypes. -/
set_option linter.unusedSimpArgs false
set_option linter.unusedVariables false
namespace Go.Rm

theorem setN_at {N : NetD} {a : Nat} {w : Int} (ha : a < N.as.length) (hw : weightB w = true) : setW N a w = wOK ∧ setN N a w = { N with as := N.as.set a ⟨(nthT N.as a).a, (nthT N.as a).b, w⟩ } := by
  have h1 : setW N a w = wOK := by
    unfold setW
    rw [if_neg (by simp [vtxB]; omega), if_neg (by simp [hw])]
  refine ⟨h1, ?_⟩
  unfold setN
  rw [h1, if_pos (show wOK.2 = 0 from rfl)]
  simp
theorem setN_back {N : NetD} {a : Nat} {c d : Int} (ha : a < N.as.length) (hc : weightB c = true) (hd : weightB d = true) (hw : weightB (nthT N.as a).c = true) :
    setN (setN (setN N a c) a d) a (nthT N.as a).c = N ∧ weightV (setN (setN N a c) a d) a = d ∧ setW N a c = wOK ∧ setW (setN N a c) a d = wOK ∧ setW (setN (setN N a c) a d) a (nthT N.as a).c = wOK := by
  obtain ⟨w1, e1⟩ := setN_at ha hc
  have l1 : a < (setN N a c).as.length := by rw [e1]; simpa using ha
  obtain ⟨w2, e2⟩ := setN_at l1 hd
  have n1 : nthT (setN N a c).as a = ⟨(nthT N.as a).a, (nthT N.as a).b, c⟩ := by rw [e1]; simp only; rw [nthT_set ha, if_pos rfl]
  have e2' : setN (setN N a c) a d = { N with as := N.as.set a ⟨(nthT N.as a).a, (nthT N.as a).b, d⟩ } := by
    rw [e2, n1, e1]
    simp
  have l2 : a < (setN (setN N a c) a d).as.length := by rw [e2']; simpa using ha
  obtain ⟨w3, e3⟩ := setN_at l2 hw
  have n2 : nthT (setN (setN N a c) a d).as a = ⟨(nthT N.as a).a, (nthT N.as a).b, d⟩ := by rw [e2']; simp only; rw [nthT_set ha, if_pos rfl]
  refine ⟨?_, ?_, w1, w2, w3⟩
  · rw [e3, n2, e2']
    simp only [List.set_set]
    have : N.as.set a ⟨(nthT N.as a).a, (nthT N.as a).b, (nthT N.as a).c⟩ = N.as := by
      rw [nthT_eq ha]
      exact List.set_getElem_self ha
    rw [this]
  · unfold weightV
    rw [if_pos (by simp [vtxB]; omega), Int.toNat_natCast, n2]

/-- places of a table -/
theorem tab_place {t : Tab} (h : (tabWr t).2 = 0) {p : Nat} (hp : p < t.cs.length) :
    ∃ i o A B : Nat, t.i = i ∧ t.o = o ∧ 0 < o ∧ A < i ∧ B < o ∧ A * o + B = p ∧ (p : Int).tdiv t.o = A ∧ (p : Int).tmod t.o = B ∧ A ≤ p ∧ ∀ a b : Nat, b < o → a * o + b = p → a = A ∧ b = B := by
  obtain ⟨a1, a2, a3, a4, a5, _, _⟩ := tab_ok (ins := t.i) (outs := t.o) (cs := t.cs) h
  obtain ⟨i, hi⟩ : ∃ i : Nat, t.i = i := ⟨t.i.toNat, by omega⟩
  obtain ⟨o, ho⟩ : ∃ o : Nat, t.o = o := ⟨t.o.toNat, by omega⟩
  have hl : t.cs.length = i * o := by
    rw [hi, ho] at a5
    exact_mod_cast a5
  have ho0 : 0 < o := by
    rcases Nat.eq_zero_or_pos o with q | q
    · rw [q, Nat.mul_zero] at hl; omega
    · exact q
  refine ⟨i, o, p / o, p % o, hi, ho, ho0, ?_, Nat.mod_lt _ ho0, ?_, ?_, ?_, Nat.div_le_self .., ?_⟩
  · rw [Nat.div_lt_iff_lt_mul ho0]
    rw [hl] at hp
    exact hp
  · rw [Nat.mul_comm]; exact Nat.div_add_mod p o
  · rw [ho]; exact (Int.ofNat_tdiv p o).symm
  · rw [ho]; exact (Int.ofNat_tmod p o).symm
  · intro a b hb he
    subst he
    have h1 : (a * o + b) / o = a := by
      rw [Nat.mul_comm, Nat.mul_add_div ho0, Nat.div_eq_of_lt hb, Nat.add_zero]
    have h2 : (a * o + b) % o = b := by
      rw [Nat.mul_comm, Nat.mul_add_mod, Nat.mod_eq_of_lt hb]
    exact ⟨h1.symm, h2.symm⟩
theorem bendN_at {N : NetD} (ok : NetOK N) {t p i o A B : Nat} {c : Int} (ht : t < N.ts.length) (hi : (nthB N.ts t).i = i) (ho : (nthB N.ts t).o = o) (h1 : A < i) (h2 : B < o) (h3 : A * o + B = p) (hc : weightB c = true) :
    bendW N t A B c = wOK ∧ bendN N t A B c = { N with ts := N.ts.set t ⟨(nthB N.ts t).i, (nthB N.ts t).o, (nthB N.ts t).cs.set p c⟩ } := by
  have hT := tabWr_ok (ok.tab t ht)
  have hw : withW (nthB N.ts t).i (nthB N.ts t).o (nthB N.ts t).cs A B c = wOK := by
    unfold withW
    rw [if_neg (by rw [hi]; omega), if_neg (by rw [ho]; omega), if_neg (by simp [hc])]
    exact hT
  have hb : bendW N t A B c = wOK := by
    unfold bendW
    rw [if_neg (by simp [vtxB]; omega)]
    simp only [Int.toNat_natCast]
    rw [hw]
    rfl
  refine ⟨hb, ?_⟩
  unfold bendN
  rw [hb, if_pos (show wOK.2 = 0 from rfl)]
  simp only [Int.toNat_natCast, bendT]
  have : ((A : Int) * (nthB N.ts t).o + (B : Int)).toNat = p := by
    rw [ho]
    have : ((A : Int) * (o : Int) + (B : Int)) = ((A * o + B : Nat) : Int) := by simp
    rw [this, h3]
    simp
  rw [this]
theorem bendN_back {N : NetD} (ok : NetOK N) {t p i o A B : Nat} {c : Int} (ht : t < N.ts.length) (hi : (nthB N.ts t).i = i) (ho : (nthB N.ts t).o = o) (hp : p < (nthB N.ts t).cs.length) (h1 : A < i) (h2 : B < o) (h3 : A * o + B = p) (hc : weightB c = true) (hw : weightB (nthI (nthB N.ts t).cs p) = true) :
    bendN (bendN N t A B c) t A B (nthI (nthB N.ts t).cs p) = N ∧ bendW (bendN N t A B c) t A B (nthI (nthB N.ts t).cs p) = wOK := by
  obtain ⟨_, e1⟩ := bendN_at ok ht hi ho h1 h2 h3 hc
  have ok1 := bendN_ok (t := t) (i := A) (k := B) (c := c) ok
  have hl : t < (bendN N t A B c).ts.length := by rw [e1]; simpa using ht
  have hn : nthB (bendN N t A B c).ts t = ⟨(nthB N.ts t).i, (nthB N.ts t).o, (nthB N.ts t).cs.set p c⟩ := by rw [e1]; simp only; rw [nthB_set ht, if_pos rfl]
  obtain ⟨w2, e2⟩ := bendN_at (i := i) (o := o) (p := p) ok1 hl (by rw [hn]; exact hi) (by rw [hn]; exact ho) h1 h2 h3 hw
  refine ⟨?_, w2⟩
  rw [e2, hn, e1]
  simp only [List.set_set]
  have hcs : (nthB N.ts t).cs.set p (nthI (nthB N.ts t).cs p) = (nthB N.ts t).cs := by
    have : nthI (nthB N.ts t).cs p = (nthB N.ts t).cs[p] := by simp [nthI, hp]
    rw [this]
    exact List.set_getElem_self hp
  rw [hcs]
  have : N.ts.set t ⟨(nthB N.ts t).i, (nthB N.ts t).o, (nthB N.ts t).cs⟩ = N.ts := by
    rw [nthB_eq ht]
    exact List.set_getElem_self ht
  rw [this]
theorem badFrom_weight {cs : List Int} (h : badFrom 0 cs = none) {p : Nat} (hp : p < cs.length) : weightB (nthI cs p) = true := by
  have key : ∀ (cs : List Int) (k p : Nat), badFrom k cs = none → p < cs.length → weightB (nthI cs p) = true := by
    intro cs
    induction cs with
    | nil => intro k p _ hp; simp at hp
    | cons x r ih =>
      intro k p h hp
      rw [badFrom] at h
      split at h
      · rename_i hx
        cases p with
        | zero => simpa [nthI] using hx
        | succ p =>
          have := ih _ p h (by simpa using hp)
          simpa [nthI] using this
      · cases h
  exact key cs 0 p h hp

section
variable {Y : Sys} {h : Heap}

set_option maxHeartbeats 1000000 in
theorem graphback_spec (L : GrLaw Y) (HA : Y.Has F.rlaw6_GraphBack S_rlaw6_GraphBack) (E : ErrSys Y) (hg : hc h E.gb 0 = some E.hv) {sv sa st : Sl} {N : NetD} (r : NetH h sv sa st N) {x y z : Nat} (hx : x < 65536) (hy : y < 65536) (hz : z < 65536) {c d : Int}
    {R : Value → Heap → Prop} (hr : ∀ h', Ext h h' → R (.bool true) h') : CallP Y F.rlaw6_GraphBack [netV sv sa st, .int .u16 x, .int .u16 y, .int .u16 z, .int .i64 c, .int .i64 d] h R := by
  have G := L.G
  have lv := r.rv.len
  have la := r.ra.len
  have lt := r.rt.len
  refine .of_has HA rfl ?_
  simp [S_rlaw6_GraphBack, FnS.wp, netV]
  refine ef_new_box ?_
  intro B hB gB bB eB
  have cB : ∀ g, Ext g h → Ext g hB := fun g e => Mod.trans e eB
  simp
  refine known6_spec G E (eB.hc hg (fun h => h)) ?_
  intro h1 e1
  have c_h1 : ∀ g, Ext g hB → Ext g h1 := fun g e => Mod.trans e e1
  have x1 := eB.trans e1
  simp (config := { maxDischargeDepth := 60 }) [cB, bB.sk, bB.rk, c_h1]
  refine mayS_spec L.NM (r.ext x1) ?_
  intro h2 e2
  have c_h2 : ∀ g, Ext g h1 → Ext g h2 := fun g e => Mod.trans e e2
  have x2 := x1.trans e2
  by_cases c1 : mayD N = true
  rotate_left
  · simp [c1]
    exact hr _ x2
  obtain ⟨cf, ok⟩ := may_ok c1
  by_cases c2 : sa.n = 0
  · simp (config := { maxDischargeDepth := 60 }) [cB, bB.sk, bB.rk, c_h1, c_h2, c1, c2]
    exact hr _ x2
  simp (config := { maxDischargeDepth := 60 }) [cB, bB.sk, bB.rk, c_h1, c_h2, c1, c2]
  refine rweight_spec G.RT.Weight ?_
  cases c3 : weightB c with
  | false =>
    simp
    exact hr _ x2
  | true =>
  simp
  refine rweight_spec G.RT.Weight ?_
  cases c4 : weightB d with
  | false =>
    simp
    exact hr _ x2
  | true =>
  simp (config := { maxDischargeDepth := 60 }) [cB, bB.sk, bB.rk, c_h1, c_h2]
  refine toS_spec G.NT (r.ext x2) cf ?_
  intro h3 a1 a2 a3 e3 r3
  have c_h3 : ∀ g, Ext g h2 → Ext g h3 := fun g e => Mod.trans e e3
  have x3 := x2.trans e3
  simp
  refine gnew_spec G.GN G.T r3 (fun u h4 _ hne _ => absurd (by rw [netW_ok ok]; rfl) hne) ?_
  intro h4 p S e4 _ g4 hS
  have y4 : Ext hB h4 := ((e1.trans e2).trans e3).trans e4
  have lo3 : hB.size ≤ h3.size := ((e1.trans e2).trans e3).size
  have hlo : ∀ b, S b → hB.size ≤ b := fun b hb => by have := hS b hb; omega
  have w0 : IntKind.i64.wrap (x : Int) = x := i64_wrap (by omega)
  have w1 : IntKind.i64.wrap (y : Int) = y := i64_wrap (by omega)
  have w2 : IntKind.i64.wrap (z : Int) = z := i64_wrap (by omega)
  have hne1 : (sa.n : Int) ≠ 0 := by omega
  have ht1 : (x : Int).tmod sa.n = ((x % sa.n : Nat) : Int) := by rw [Int.tmod_eq_emod_of_nonneg (by omega)]; omega
  have ha' : x % sa.n < sa.n := Nat.mod_lt _ (by omega)
  obtain ⟨k, hk⟩ : ∃ k, k = x % sa.n := ⟨_, rfl⟩
  rw [← hk] at ht1 ha'
  have ha : k < N.as.length := by omega
  have hkn : (k : Int) < sa.n := by omega
  -- there is a type: an arc goes from a vertex, which has one
  have hts : 0 < N.ts.length := by
    have h1 := (ok.arcs k ha).1
    simp only [vtxB, decide_eq_true_eq] at h1
    have h2 := ok.vt (nthT N.as k).a.toNat (by omega)
    simp only [vtxB, decide_eq_true_eq] at h2
    omega
  obtain ⟨q1, q2, q3, q4, q5⟩ := setN_back ha c3 c4 (ok.w k ha)
  simp [(bB.ext y4).hc, w0, ib_rem hne1, ht1]
  refine gset_spec G.GS g4 ?_
  intro v h5 m5 g5 hv5
  rw [q3] at hv5
  have := hv5.here.nil rfl
  subst this
  have y5 : Ext hB h5 := Mod.ext y4 m5 hlo
  simp
  refine gset_spec G.GS g5 ?_
  intro v h6 m6 g6 hv6
  rw [q4] at hv6
  have := hv6.here.nil rfl
  subst this
  have y6 : Ext hB h6 := Mod.ext y5 m6 hlo
  simp
  refine gweight_spec G.Weight G.GS.arc g6 ?_
  rw [q2]
  have rk := (r.ext (eB.trans y6)).ra
  simp [(bB.ext y6).hc, sem_idxa rk.ok, hkn, rk.v2 k ha]
  refine gset_spec G.GS g6 ?_
  intro v h7 m7 g7 hv7
  rw [q5] at hv7
  rw [q1] at g7
  have := hv7.here.nil rfl
  subst this
  have y7 : Ext hB h7 := Mod.ext y6 m7 hlo
  have hne2 : (st.n : Int) ≠ 0 := by omega
  have ht2 : (y : Int).tmod st.n = ((y % st.n : Nat) : Int) := by rw [Int.tmod_eq_emod_of_nonneg (by omega)]; omega
  have hty : y % st.n < st.n := Nat.mod_lt _ (by omega)
  obtain ⟨t, htd⟩ : ∃ t, t = y % st.n := ⟨_, rfl⟩
  rw [← htd] at ht2 hty
  have htl : t < N.ts.length := by omega
  have htn : (t : Int) < st.n := by omega
  obtain ⟨u, rdt0, _, ru0⟩ := r.rt.rd (i := t) htl
  have rdt := (eB.trans y7).rd rdt0 (fun h => h)
  have ru := ru0.ext (eB.trans y7)
  have hul := ru.len
  simp [(bB.ext y7).hc, w1, ib_rem hne2, ht2, sem_idxa r.rt.ok, htn, rdt]
  refine new_store (vs := #[.int .i64 (nthB N.ts t).i, .int .i64 (nthB N.ts t).o, u.v]) rfl rfl (by simp) ?_
  intro X hXp gX bXp eXp stX
  simp
  refine stX _ ?_
  intro hX bX eX
  clear stX bXp eXp
  have y8 := y7.trans eX
  have g8 := g7.ext eX
  have ru8 := ru.ext eX
  by_cases c5 : 0 < u.n
  rotate_left
  · have c5' : ¬ (0 : Int) < u.n := by omega
    simp [bX.hc, c5', c5, rd_blk (bB.ext y8)]
    refine same6_spec G g8 ok.small (r.ext (eB.trans y8)) ?_
    intro h9 e9
    simp
    exact hr _ ((eB.trans y8).trans e9)
  have c5' : (0 : Int) < u.n := by omega
  have hne3 : (u.n : Int) ≠ 0 := by omega
  have ht3 : (z : Int).tmod u.n = ((z % u.n : Nat) : Int) := by rw [Int.tmod_eq_emod_of_nonneg (by omega)]; omega
  have hzu : z % u.n < u.n := Nat.mod_lt _ (by omega)
  obtain ⟨pp, hpp⟩ : ∃ pp, pp = z % u.n := ⟨_, rfl⟩
  rw [← hpp] at ht3 hzu
  have hpl : pp < (nthB N.ts t).cs.length := by omega
  obtain ⟨i, o, A, Bo, hi, ho, ho0, j1, j2, j3, hq, hm, hAp, _⟩ := tab_place (ok.tab t htl) hpl
  have hcw := badFrom_weight (tab_ok (ins := (nthB N.ts t).i) (outs := (nthB N.ts t).o) (cs := (nthB N.ts t).cs) (ok.tab t htl)).2.2.2.2.2.1 hpl
  obtain ⟨b1, b2⟩ := bendN_at ok htl hi ho j1 j2 j3 c3
  obtain ⟨b3, b4⟩ := bendN_back ok htl hi ho hpl j1 j2 j3 c3 hcw
  have hoi : (nthB N.ts t).o ≠ 0 := by omega
  have hbig : (nthB N.ts t).cs.length ≤ 300 := (few_small cf).2.2.2.1 t htl
  have w3 : IntKind.i64.wrap (A : Int) = (A : Int) := i64_wrap (by omega)
  have hpu : (pp : Int) < u.n := by omega
  simp [bX.hc, c5', c5, w2, ib_rem hne3, ht3, ib_quo hoi, ib_rem hoi, hq, hm, w3]
  refine gbend_spec G.GB G.T g8 ?_
  intro v h9 S9 m9 hS9 _ g9 hv9
  rw [b1] at hv9
  have := hv9.here.nil rfl
  subst this
  have y9 : Ext hB h9 := Mod.ext y8 m9 hlo
  have lX := bX.lt
  have hXS : ∀ b, S b → b ≠ X := fun b hb e => by have := g7.lt b hb; omega
  have bX9 := m9.blk bX (fun hs => hXS _ hs rfl)
  have hul9 : (nthB N.ts t).cs ≠ [] → ¬ S u.b := fun hne hs => by have := ru0.lt hne; have := hlo _ hs; have := eB.size; omega
  have ru9 := ru8.mod m9 hul9
  simp [bX9.hc, ib_quo hoi, ib_rem hoi, hq, hm, w3, sem_idxa ru9.ok, hpu, ru9.val pp hpl]
  refine gbend_spec G.GB G.T g9 ?_
  intro v h10 S10 m10 hS10 _ g10 hv10
  rw [b4] at hv10
  rw [b3] at g10
  have := hv10.here.nil rfl
  subst this
  have hlo9 : ∀ b, S9 b → hB.size ≤ b := fun b hb => by
    rcases hS9 b hb with q | q
    · exact hlo b q
    · have := y8.size; omega
  have y10 : Ext hB h10 := Mod.ext y9 m10 hlo9
  simp [rd_blk (bB.ext y10)]
  refine same6_spec G g10 ok.small (r.ext (eB.trans y10)) ?_
  intro h11 e11
  simp
  exact hr _ ((eB.trans y10).trans e11)
end
end Go.Rm

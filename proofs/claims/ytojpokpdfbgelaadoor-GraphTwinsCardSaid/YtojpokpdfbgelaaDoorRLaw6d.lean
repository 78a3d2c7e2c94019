import Derived.Test.YtojpokpdfbgelaaDoorRLaw6c

/- The laws of graphs: GraphTwins. -/
set_option linter.unusedSimpArgs false
set_option linter.unusedVariables false
namespace Go.Rm

section
variable {Y : Sys} {h : Heap}

/-- a graph that is changed, and the document's net beside it, which stands in box M -/
structure PlayS (h0 h' : Heap) (M p : Nat) (N : NetD) (S0 F0 : Nat → Prop) (s1 s2 s3 : Sl) (Fb S : Nat → Prop) : Prop where
  box : Blk h' M #[s1.v, s2.v, s3.v]
  g : GraphA h' p N S
  f : NetF Fb h' s1 s2 s3 N
  d : ∀ b, Fb b → ¬ S b
  inS : ∀ b, S b → S0 b ∨ h0.size ≤ b
  inF : ∀ b, Fb b → F0 b ∨ h0.size ≤ b
  m : Mod (fun j => j = M ∨ S0 j ∨ h0.size ≤ j) h0 h'
/-- a turn of the loop, behind Do -/
theorem PlayS.step {h0 h' h1 h2 h3 : Heap} {M p : Nat} {N N' : NetD} {S0 F0 : Nat → Prop} {s1 s2 s3 t1 t2 t3 : Sl} {Fb S F' S' : Nat → Prop} (P : PlayS h0 h' M p N S0 F0 s1 s2 s3 Fb S)
    (e1 : Ext h' h1) (hM : M < h0.size) (hMS : ¬ S0 M) (hMF : ¬ F0 M) (g : GraphA h2 p N' S') (f : NetF F' h2 t1 t2 t3 N') (hS : ∀ b, S' b → S b ∨ h1.size ≤ b) (hF : ∀ b, F' b → Fb b ∨ h1.size ≤ b) (hd : ∀ b, F' b → ¬ S' b) (m : Mod S h1 h2)
    (C : Nat) (hC : h'.size ≤ C) (hCn : C < h1.size ∨ h2.size ≤ C) (m2 : Mod (fun j => j = C) h2 h3) {h4 h5 : Heap} (e4 : Ext h3 h4) (m5 : Mod (fun j => j = M) h4 h5) (b5 : Blk h5 M #[t1.v, t2.v, t3.v]) :
    PlayS h0 h5 M p N' S0 F0 t1 t2 t3 F' S' := by
  have z1 := e1.size
  have z0 := P.m.size
  have z2 := m.size
  have lS := P.g.lt
  have lF := P.f.2
  have lS' := g.lt
  have lF' := f.2
  have hS' : ∀ b, S' b → S0 b ∨ h0.size ≤ b := fun b hb => by
    rcases hS b hb with q | q
    · exact P.inS b q
    · exact .inr (by omega)
  have hF' : ∀ b, F' b → F0 b ∨ h0.size ≤ b := fun b hb => by
    rcases hF b hb with q | q
    · exact P.inF b q
    · exact .inr (by omega)
  have nMS : ∀ b, S' b → b ≠ M := fun b hb e => by
    subst e
    rcases hS' b hb with q | q
    · exact hMS q
    · omega
  have nMF : ∀ b, F' b → b ≠ M := fun b hb e => by
    subst e
    rcases hF' b hb with q | q
    · exact hMF q
    · omega
  have nCS : ∀ b, S' b → b ≠ C := fun b hb e => by
    subst e
    rcases hCn with hCn | hCn
    · rcases hS b hb with q | q
      · have := lS b q; omega
      · omega
    · have := lS' b hb; omega
  have nCF : ∀ b, F' b → b ≠ C := fun b hb e => by
    subst e
    rcases hCn with hCn | hCn
    · rcases hF b hb with q | q
      · have := lF b q; omega
      · omega
    · have := lF' b hb; omega
  refine ⟨b5, ((g.mod m2 (fun b hb => nCS b hb)).ext e4).mod m5 (fun b hb => nMS b hb), ((f.mod m2 (fun b hb => nCF b hb)).ext e4).mod m5 (fun b hb => nMF b hb), hd, hS', hF', ?_⟩
  refine ((((P.m.trans (e1.mono fun _ _ h => h.elim)).trans (m.mono fun b _ hb => .inr (P.inS b hb))).trans (m2.mono fun j _ hj => .inr (.inr (by omega)))).trans (e4.mono fun _ _ h => h.elim)).trans (m5.mono fun _ _ h => .inl h)

def TwI0 (v0 v1 v2 : Value) (B O p : Nat) (a2 : Sl) (h0 : Heap) (e : List Value) (h' : Heap) : Prop :=
  ∃ (i : Nat) (cells : List Value) (v4 v7 v9 v10 v11 v12 v13 v14 v15 v16 v17 v18 v19 v20 v21 v22 v23 v24 v25 v26 v27 v28 : Value), e = [v0, v1, v2, .pointer (some ⟨B, 0, none⟩), v4, .pointer (some ⟨O, 0, none⟩), .pointer (some ⟨p, 0, none⟩), v7, .int .i64 i, v9, v10, v11, v12, v13, v14, v15, v16, v17, v18, v19, v20, v21, v22, v23, v24, v25, v26, v27, v28] ∧ i ≤ a2.n ∧ Own h' 3 a2 cells ∧ Mod (fun j => a2.nl = false ∧ j = a2.b) h0 h'
def TwI1 (v0 v2 : Value) (B p q K M : Nat) (S0 F0 : Nat → Prop) (sl : Sl) (N : NetD) (l : List Act5) (h0 : Heap) (e : List Value) (h' : Heap) : Prop :=
  ∃ (i : Nat) (s1 s2 s3 : Sl) (Fb S : Nat → Prop) (v4 v5 v7 v8 v13 v14 v15 v16 v17 v18 v19 v20 v21 v22 v23 v24 v25 v26 v27 v28 : Value), e = [v0, sl.v, v2, .pointer (some ⟨B, 0, none⟩), v4, v5, .pointer (some ⟨p, 0, none⟩), v7, v8, .pointer (some ⟨q, 0, none⟩), .pointer (some ⟨K, 0, none⟩), .pointer (some ⟨M, 0, none⟩), .int .i64 i, v13, v14, v15, v16, v17, v18, v19, v20, v21, v22, v23, v24, v25, v26, v27, v28] ∧ i ≤ sl.n ∧ PlayS h0 h' M p (playN N (l.take i)) S0 F0 s1 s2 s3 Fb S
def TwI2 (v0 v1 : Value) (B p q K M Q : Nat) (S0 F0 : Nat → Prop) (sl : Sl) (N : NetD) (l : List Act5) (h0 : Heap) (e : List Value) (h' : Heap) : Prop :=
  ∃ (i : Nat) (s1 s2 s3 : Sl) (Fb S : Nat → Prop) (v4 v5 v7 v8 v12 v13 v14 v17 v18 v19 v20 v21 v22 v23 v24 v25 v26 v27 v28 : Value), e = [v0, v1, sl.v, .pointer (some ⟨B, 0, none⟩), v4, v5, .pointer (some ⟨p, 0, none⟩), v7, v8, .pointer (some ⟨q, 0, none⟩), .pointer (some ⟨K, 0, none⟩), .pointer (some ⟨M, 0, none⟩), v12, v13, v14, .pointer (some ⟨Q, 0, none⟩), .int .i64 i, v17, v18, v19, v20, v21, v22, v23, v24, v25, v26, v27, v28] ∧ i ≤ sl.n ∧ PlayS h0 h' Q q (playN N (l.take i)) S0 F0 s1 s2 s3 Fb S

set_option maxHeartbeats 2000000 in
theorem graphtwins_spec (L : GrLaw Y) (HA : Y.Has F.rlaw6_GraphTwins S_rlaw6_GraphTwins) (E : ErrSys Y) (hg : hc h E.gb 0 = some E.hv) {sv sa st sl sm : Sl} {N : NetD} {l m : List Act5} (r : NetH h sv sa st N) (rl : Row5 h sl l) (rm : Row5 h sm m)
    {R : Value → Heap → Prop} (hr : ∀ h', Ext h h' → R (.bool true) h') : CallP Y F.rlaw6_GraphTwins [netV sv sa st, sl.v, sm.v] h R := by
  have G := L.G
  have ll := rl.len
  have lm := rm.len
  have lgb := hg_lt hg
  refine .of_has HA rfl ?_
  simp [S_rlaw6_GraphTwins, FnS.wp, netV]
  refine ef_new_box ?_
  intro B hB gB bB eB
  have cB : ∀ g, Ext g h → Ext g hB := fun g e => Mod.trans e eB
  have lB := bB.lt
  have zB := eB.size
  simp
  refine known6_spec G E (eB.hc hg (fun h => h)) ?_
  intro h1 e1
  have c_h1 : ∀ g, Ext g hB → Ext g h1 := fun g e => Mod.trans e e1
  have x1 := eB.trans e1
  simp (config := { maxDischargeDepth := 60 }) [cB, bB.sk, bB.rk, c_h1]
  refine mayS_spec L.NM (r.ext x1) ?_
  intro h2 e2
  have c_h2 : ∀ g, Ext g h1 → Ext g h2 := fun g e => Mod.trans e e2
  have x2 := x1.trans e2
  by_cases c1 : mayD N = true
  rotate_left
  · simp [c1]
    exact hr _ x2
  obtain ⟨cf, ok⟩ := may_ok c1
  by_cases c2 : 20 < sl.n
  · have c2' : (20 : Int) < sl.n := by omega
    simp [c1, c2']
    exact hr _ x2
  have c2' : ¬ (20 : Int) < sl.n := by omega
  by_cases c3 : 20 < sm.n
  · have c3' : (20 : Int) < sm.n := by omega
    simp [c1, c2', c3']
    exact hr _ x2
  have c3' : ¬ (20 : Int) < sm.n := by omega
  simp (config := { maxDischargeDepth := 60 }) [cB, bB.sk, bB.rk, c_h1, c_h2, c1, c2', c3']
  obtain ⟨f1, f2, f3, f4, _⟩ := few_small cf
  refine to3o_spec G.NT.To3 G.NT.To2 (r.ext x2) (by omega) (by omega) (by omega) (fun i hi => by have := f4 i hi; omega) ?_
  intro h3 a1 a2 a3 e3 r3 oa ha2
  have la3 := r3.ra.len
  have c_h3 : ∀ g, Ext g h2 → Ext g h3 := fun g e => Mod.trans e e3
  simp [netV]
  refine new_store (vs := #[a1.v, a2.v, a3.v]) rfl rfl (by simp) ?_
  intro O hOp gO bOp eOp stO
  have cOp : ∀ g, Ext g h3 → Ext g hOp := fun g e => Mod.trans e eOp
  simp (config := { maxDischargeDepth := 60 }) [cB, bB.sk, bB.rk, c_h1, c_h2, c_h3, cOp]
  refine stO _ ?_
  intro hO bO eO
  clear cOp stO bOp eOp
  have cO : ∀ g, Ext g h3 → Ext g hO := fun g e => Mod.trans e eO
  have xO := (x2.trans e3).trans eO
  have oaO := oa.ext' eO
  have lA : a2.nl = false → a2.b < h3.size := fun hn => oa.lt hn
  have lO := bO.lt
  have zO := eO.size
  simp [rd_blk bO]
  refine gnew_spec G.GN G.T (r3.ext eO) (fun u h4 _ hne _ => absurd (by rw [netW_ok ok]; rfl) hne) ?_
  intro h4 p S e4 _ g4 hS
  have x4 := xO.trans e4
  have z4 := e4.size
  have z3 := e3.size
  have z2 := x2.size
  have bO4 := bO.ext e4
  simp
  refine wp_loop' (TwI0 (netV sv sa st) sl.v sm.v B O p a2 h4) (fun e _ => a2.n - argI e 8) ⟨0, _, _, _, _, _, _, _, _, _, _, _, _, _, _, _, _, _, _, _, _, _, _, _, rfl, by omega, oaO.ext' e4, Mod.refl _⟩ ?_
  rintro e h5 ⟨i, cells, v4, v7, v9, v10, v11, v12, v13, v14, v15, v16, v17, v18, v19, v20, v21, v22, v23, v24, v25, v26, v27, v28, rfl, hi, o5, m5⟩
  have x5 : Ext h h5 := Mod.ext x4 m5 (fun j hj => by have := ha2.resolve_left (by rw [hj.1]; simp); omega)
  have bO5 := m5.blk bO4 (fun hj => by have := lA hj.1; omega)
  by_cases c : i < a2.n
  · have c' : (i : Int) < a2.n := by omega
    have w1 : IntKind.i64.wrap ((i : Int) + 1) = (i : Int) + 1 := i64_wrap (by omega)
    have hl := o5.1
    obtain ⟨arr, hb, _, hnl⟩ := o5.blk (i := 0) (by omega)
    simp [bO5.hc, c', sem_idxa o5.ok]
    rw [Nat.add_assoc]
    refine stN o5 (k := i * 3 + 2) (by omega) ?_
    intro h6 o6 m6
    simp [w1]
    refine ⟨⟨i + 1, _, _, _, _, _, _, _, _, _, _, _, _, _, _, _, _, _, _, _, _, _, _, _, rfl, by omega, o6, m5.trans (m6.mono fun _ _ h => ⟨hnl, h⟩)⟩, by simp [argI]; omega⟩
  have c' : ¬ (i : Int) < a2.n := by omega
  have z5 := m5.size
  have hB2 : hB.size ≤ h2.size := (e1.trans e2).size
  have x25 : Ext hB h5 := Mod.ext ((((e1.trans e2).trans e3).trans eO).trans e4) m5 (fun j hj => by have := ha2.resolve_left (by rw [hj.1]; simp); omega)
  have bB5 := bB.ext x25
  have g5 := g4.mod m5 (fun b hb hj => by have := hS b hb; have := lA hj.1; omega)
  have hSlo : ∀ b, S b → hB.size ≤ b := fun b hb => by have := hS b hb; omega
  simp [bO5.hc, c']
  refine gtwin_spec L.Twin G.GN.build G.GN.Cl g5 ok.small ok.arcs ?_
  intro h6 q T e6 t6 hT
  simp
  refine gnet_spec G.Net G.GN.Cl (g5.ext e6) ok.small ?_
  intro h7 n1 n2 n3 e7 fr7
  have f7 := netF_fresh fr7
  have z6 := e6.size
  have z7 := e7.size
  have lT := t6.lt
  simp [netV]
  refine new_store (vs := #[n1.v, n2.v, n3.v]) rfl rfl (by simp) ?_
  intro K hKp gK bKp eKp stK
  have cKp : ∀ g, Ext g h7 → Ext g hKp := fun g e => Mod.trans e eKp
  simp (config := { maxDischargeDepth := 60 }) [cB, bB.sk, bB.rk, c_h1, c_h2, c_h3, cO, bO.sk, bO.rk, cKp]
  refine stK _ ?_
  intro hK bK eK
  clear cKp stK bKp eKp
  have cK : ∀ g, Ext g h7 → Ext g hK := fun g e => Mod.trans e eK
  have zK := eK.size
  have lK := bK.lt
  have x67 := (e6.trans e7).trans eK
  have gK := g5.ext x67
  have tK := t6.ext (e7.trans eK)
  have fK := f7.ext eK
  have bBK := bB5.ext x67
  have xK := x5.trans x67
  simp [rd_blk bBK]
  refine same6_spec G tK ok.small (r.ext xK) ?_
  intro h8 e8
  have bB8 := bBK.ext e8
  simp [rd_blk bB8]
  refine new_store (vs := #[sv.v, sa.v, st.v]) rfl rfl (by simp) ?_
  intro M hMp gM bMp eMp stM
  simp
  refine stM _ ?_
  intro hM bM eM
  clear stM bMp eMp
  have zM := eM.size
  have z8 := e8.size
  have lM := bM.lt
  have e8M := e8.trans eM
  have xM := xK.trans e8M
  have gM' := gK.ext e8M
  have tM := tK.ext e8M
  have fM := fK.ext e8M
  have bBM := bBK.ext e8M
  have bKM := bK.ext e8M
  have rM := r.toF.ext xM
  have hxM := xM.size
  simp
  refine wp_loop' (TwI1 (netV sv sa st) sm.v B p q K M S (fun b => b < h.size) sl N l hM) (fun e _ => sl.n - argI e 12) ⟨0, sv, sa, st, (fun b => b < h.size), S, _, _, _, _, _, _, _, _, _, _, _, _, _, _, _, _, _, _, _, _, rfl, by omega, ⟨bM, gM', rM, (fun b hb hs => by have := hSlo b hs; omega), (fun b hb => .inl hb), (fun b hb => .inl hb), Mod.refl _⟩⟩ ?_
  rintro e h9 ⟨i, s1, s2, s3, Fb, S9, v4, v5, v7, v8, v13, v14, v15, v16, v17, v18, v19, v20, v21, v22, v23, v24, v25, v26, v27, v28, rfl, hi9, P⟩
  have hMS : ¬ S M := fun hs => by have := g5.lt _ hs; omega
  have lS5 := g5.lt
  have x9 : Ext hB h9 := Mod.ext (x25.trans (x67.trans e8M)) P.m (fun j hj => by
    rcases hj with hj | hj | hj
    · omega
    · exact hSlo j hj
    · omega)
  have y9 : Ext h h9 := eB.trans x9
  have bB9 := bB.ext x9
  have okN := playN_ok (l := l.take i) ok
  by_cases c : i < sl.n
  · have c' : (i : Int) < sl.n := by omega
    have ci : i < l.length := by omega
    have w1 : IntKind.i64.wrap ((i : Int) + 1) = (i : Int) + 1 := i64_wrap (by omega)
    have hsn := playN_snoc (N := N) ci
    have hgS : ¬ S9 E.gb := fun hs => by
      rcases P.inS _ hs with q | q
      · have := hSlo _ q; omega
      · omega
    simp [c', rd_blk P.box, sem_idxa rl.ok, rl.sk h9 i y9 ci]
    rw [show (Value.agg #[s1.v, s2.v, s3.v]) = netV s1 s2 s3 from rfl]
    refine ⟨?_, ?_⟩
    · refine do6_spec G E (y9.hc hg (fun h => h)) hgS P.g P.f P.d okN ?_
      intro h10 v hv
      obtain ⟨t1, t2, t3, F', S', rfl, g10, f10, hS10, hF10, hd10, m10⟩ := hv
      rw [← hsn] at g10 f10
      simp [netV]
      refine new_store (vs := #[t1.v, t2.v, t3.v]) rfl rfl (by simp) ?_
      intro C hCp gC bCp eCp stC
      simp
      refine stC _ ?_
      intro hC bC eC
      clear stC bCp eCp
      have bM10 := (m10.blk P.box (fun hs => by
        rcases P.inS _ hs with q | q
        · exact hMS q
        · omega)).ext eC
      have z10 := m10.size
      simp [rd_blk bC]
      refine ef_store_box bM10 rfl rfl (by simp) ?_
      intro h11 bM11 m11
      simp [w1]
      refine ⟨⟨i + 1, t1, t2, t3, F', S', _, _, _, _, _, _, _, _, _, _, _, _, _, _, _, _, _, _, _, _, rfl, by omega, P.step (Mod.refl _) lM hMS (by omega) g10 f10 hS10 hF10 hd10 m10 C (by omega) (.inr gC) (eC.mono fun _ _ h => h.elim) (Mod.refl _) m11 bM11⟩, by simp [argI]; omega⟩
    · refine ef_new_box ?_
      intro C h9' gC bC0 eC0
      have lC := bC0.lt
      have z9' := eC0.size
      simp [rd_blk (P.box.ext eC0), rl.sk h9' i (y9.trans eC0) ci]
      rw [show (Value.agg #[s1.v, s2.v, s3.v]) = netV s1 s2 s3 from rfl]
      refine ⟨rfl, ?_⟩
      refine do6_spec (t := nthA l i) G E ((y9.trans eC0).hc hg (fun h => h)) hgS (P.g.ext eC0) (P.f.ext eC0) P.d okN ?_
      intro h10 v hv
      obtain ⟨t1, t2, t3, F', S', rfl, g10, f10, hS10, hF10, hd10, m10⟩ := hv
      rw [← hsn] at g10 f10
      have lS9 := P.g.lt
      have bC1 := m10.blk bC0 (fun hs => by have := lS9 _ hs; omega)
      simp [netV]
      refine ef_store_box bC1 rfl rfl (by simp) ?_
      intro hC bC mC
      have z9 := P.m.size
      have bM10 := mC.blk (m10.blk (P.box.ext eC0) (fun hs => by
        rcases P.inS _ hs with q | q
        · exact hMS q
        · omega)) (by omega)
      simp [rd_blk bC]
      refine ef_store_box bM10 rfl rfl (by simp) ?_
      intro h11 bM11 m11
      simp [w1]
      refine ⟨⟨i + 1, t1, t2, t3, F', S', _, _, _, _, _, _, _, _, _, _, _, _, _, _, _, _, _, _, _, _, rfl, by omega, P.step eC0 lM hMS (by omega) g10 f10 hS10 hF10 hd10 m10 C gC (.inl lC) mC (Mod.refl _) m11 bM11⟩, by simp [argI]; omega⟩
  have c' : ¬ (i : Int) < sl.n := by omega
  obtain rfl : i = sl.n := by omega
  -- the twin, and what was told, stay as they were
  have nT : ∀ b, T b → ¬ (b = M ∨ S b ∨ hM.size ≤ b) := fun b hb hj => by
    have h1 := hT b hb
    have h2 := lT b hb
    rcases hj with hj | hj | hj
    · omega
    · have := lS5 b hj; omega
    · omega
  have t9 := tM.mod P.m nT
  have f9 := fM.mod P.m (fun b hb hj => by
    rcases hj with hj | hj | hj
    · omega
    · have := lS5 b hj; omega
    · omega)
  have bK9 := P.m.blk bKM (fun hj => by
    rcases hj with hj | hj | hj
    · omega
    · have := lS5 _ hj; omega
    · omega)
  have r9 := r.ext y9
  simp [c', rd_blk bB9]
  refine same6_spec G t9 ok.small r9 ?_
  intro h10 e10
  simp [rd_blk (bB9.ext e10), rd_blk (bK9.ext e10)]
  refine of3_spec G.Of3 G.Of2 ((f9.ext e10).here) ok.small.bv ok.small.ba ok.small.bt ok.small.bc ?_
  intro h11 o1 o2 o3 e11 r11
  have bB11 := (bB9.ext e10).ext e11
  simp [rd_blk bB11]
  refine rsamenet_spec G.SameNet G.RT r11 ((r9.ext e10).ext e11) ok.small ?_
  intro h12 e12
  have e912 := (e10.trans e11).trans e12
  have bB12 := bB9.ext e912
  simp [rd_blk bB12]
  refine new_store (vs := #[sv.v, sa.v, st.v]) rfl rfl (by simp) ?_
  intro Q hQp gQ bQp eQp stQ
  simp
  refine stQ _ ?_
  intro hQ bQ eQ
  clear stQ bQp eQp
  have e9Q := e912.trans eQ
  have zQ := eQ.size
  have lQ := bQ.lt
  have z912 := e912.size
  have z9M := P.m.size
  have PQg := P.g.ext e9Q
  have PQf := P.f.ext e9Q
  have PQb := P.box.ext e9Q
  have tQ := t9.ext e9Q
  have yQ := y9.trans e9Q
  have xQ := x9.trans e9Q
  have lS9 := P.g.lt
  have lF9 := P.f.2
  have hTlo : ∀ b, T b → hB.size ≤ b := fun b hb => by have := hT b hb; have := x25.size; omega
  simp
  refine wp_loop' (TwI2 (netV sv sa st) sl.v B p q K M Q T (fun b => b < h.size) sm N m hQ) (fun e _ => sm.n - argI e 16) ⟨0, sv, sa, st, (fun b => b < h.size), T, _, _, _, _, _, _, _, _, _, _, _, _, _, _, _, _, _, _, _, rfl, by omega, ⟨bQ, tQ, r.toF.ext yQ, (fun b hb hs => by have := hTlo b hs; omega), (fun b hb => .inl hb), (fun b hb => .inl hb), Mod.refl _⟩⟩ ?_
  rintro e h13 ⟨i, u1, u2, u3, Fc, T9, v4, v5, v7, v8, v12, v13, v14, v17, v18, v19, v20, v21, v22, v23, v24, v25, v26, v27, v28, rfl, hi13, P2⟩
  have hQT : ¬ T Q := fun hs => by have := lT _ hs; omega
  have x13 : Ext hB h13 := Mod.ext xQ P2.m (fun j hj => by
    rcases hj with hj | hj | hj
    · omega
    · exact hTlo j hj
    · have := xQ.size; omega)
  have y13 : Ext h h13 := eB.trans x13
  have okM := playN_ok (l := m.take i) ok
  by_cases c : i < sm.n
  · have c' : (i : Int) < sm.n := by omega
    have ci : i < m.length := by omega
    have w1 : IntKind.i64.wrap ((i : Int) + 1) = (i : Int) + 1 := i64_wrap (by omega)
    have hsn := playN_snoc (N := N) ci
    have hgS : ¬ T9 E.gb := fun hs => by
      rcases P2.inS _ hs with q | q
      · have := hTlo _ q; omega
      · omega
    simp [c', rd_blk P2.box, sem_idxa rm.ok, rm.sk h13 i y13 ci]
    rw [show (Value.agg #[u1.v, u2.v, u3.v]) = netV u1 u2 u3 from rfl]
    refine ⟨?_, ?_⟩
    · refine do6_spec G E (y13.hc hg (fun h => h)) hgS P2.g P2.f P2.d okM ?_
      intro h14 v hv
      obtain ⟨t1, t2, t3, F', S', rfl, g10, f10, hS10, hF10, hd10, m10⟩ := hv
      rw [← hsn] at g10 f10
      simp [netV]
      refine new_store (vs := #[t1.v, t2.v, t3.v]) rfl rfl (by simp) ?_
      intro C hCp gC bCp eCp stC
      simp
      refine stC _ ?_
      intro hC bC eC
      clear stC bCp eCp
      have bM10 := (m10.blk P2.box (fun hs => by
        rcases P2.inS _ hs with q | q
        · exact hQT q
        · omega)).ext eC
      have z10 := m10.size
      simp [rd_blk bC]
      refine ef_store_box bM10 rfl rfl (by simp) ?_
      intro h15 bM11 m11
      simp [w1]
      refine ⟨⟨i + 1, t1, t2, t3, F', S', _, _, _, _, _, _, _, _, _, _, _, _, _, _, _, _, _, _, _, rfl, by omega, P2.step (Mod.refl _) lQ hQT (by omega) g10 f10 hS10 hF10 hd10 m10 C (by omega) (.inr gC) (eC.mono fun _ _ h => h.elim) (Mod.refl _) m11 bM11⟩, by simp [argI]; omega⟩
    · refine ef_new_box ?_
      intro C h9' gC bC0 eC0
      have lC := bC0.lt
      have z9' := eC0.size
      simp [rd_blk (P2.box.ext eC0), rm.sk h9' i (y13.trans eC0) ci]
      rw [show (Value.agg #[u1.v, u2.v, u3.v]) = netV u1 u2 u3 from rfl]
      refine ⟨rfl, ?_⟩
      refine do6_spec (t := nthA m i) G E ((y13.trans eC0).hc hg (fun h => h)) hgS (P2.g.ext eC0) (P2.f.ext eC0) P2.d okM ?_
      intro h14 v hv
      obtain ⟨t1, t2, t3, F', S', rfl, g10, f10, hS10, hF10, hd10, m10⟩ := hv
      rw [← hsn] at g10 f10
      have lT9 := P2.g.lt
      have bC1 := m10.blk bC0 (fun hs => by have := lT9 _ hs; omega)
      simp [netV]
      refine ef_store_box bC1 rfl rfl (by simp) ?_
      intro hC bC mC
      have z9 := P2.m.size
      have bM10 := mC.blk (m10.blk (P2.box.ext eC0) (fun hs => by
        rcases P2.inS _ hs with q | q
        · exact hQT q
        · omega)) (by omega)
      simp [rd_blk bC]
      refine ef_store_box bM10 rfl rfl (by simp) ?_
      intro h15 bM11 m11
      simp [w1]
      refine ⟨⟨i + 1, t1, t2, t3, F', S', _, _, _, _, _, _, _, _, _, _, _, _, _, _, _, _, _, _, _, rfl, by omega, P2.step eC0 lQ hQT (by omega) g10 f10 hS10 hF10 hd10 m10 C gC (.inl lC) mC (Mod.refl _) m11 bM11⟩, by simp [argI]; omega⟩
  have c' : ¬ (i : Int) < sm.n := by omega
  have nP : ∀ b, b < h9.size → ¬ T b → ¬ (b = Q ∨ T b ∨ hQ.size ≤ b) := fun b h1 h2 hj => by
    rcases hj with hj | hj | hj
    · omega
    · exact h2 hj
    · have := e9Q.size; omega
  have nST : ∀ b, S9 b → ¬ T b := fun b hb ht => by
    have h1 := hT b ht
    have h2 := lT b ht
    rcases P.inS b hb with q | q
    · have := lS5 b q; omega
    · omega
  have nFT : ∀ b, Fb b → ¬ T b := fun b hb ht => by
    have h1 := hT b ht
    have h2 := lT b ht
    rcases P.inF b hb with q | q
    · have := x25.size; omega
    · omega
  have g13 := PQg.mod P2.m (fun b hb => nP b (lS9 b hb) (nST b hb))
  have f13 := PQf.mod P2.m (fun b hb => nP b (lF9 b hb) (nFT b hb))
  have b13 := P2.m.blk PQb (nP M P.box.lt (fun ht => by have := lT M ht; omega))
  simp [c', rd_blk b13]
  refine same6_spec G g13 (playN_ok (l := l.take sl.n) ok).small f13.here ?_
  intro h14 e14
  simp [rd_blk (P2.box.ext e14)]
  refine same6_spec G (P2.g.ext e14) okM.small ((P2.f.ext e14).here) ?_
  intro h15 e15
  simp
  exact hr _ ((y13.trans e14).trans e15)
end
end Go.Rm

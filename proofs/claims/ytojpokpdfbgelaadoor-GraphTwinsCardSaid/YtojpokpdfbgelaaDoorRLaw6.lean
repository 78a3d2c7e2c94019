import Derived.Test.YtojpokpdfbgelaaDoorRGraph7

/- The laws of graphs: GraphTells, GraphPlays. -/
set_option linter.unusedSimpArgs false
set_option linter.unusedVariables false
namespace Go.Rm

structure GrLaw (Y : Sys) : Prop where
  G : GrAll Y
  NM : NetMay Y
  R2 : RefNet2 Y
  Outs : Y.Has F.graph_Graph_Outs S_graph_Graph_Outs
  Twin : Y.Has F.graph_Graph_Twin S_graph_Graph_Twin

theorem hg_lt {h : Heap} {b : Nat} {v : Value} (hg : hc h b 0 = some v) : b < h.size := by
  rcases Nat.lt_or_ge b h.size with q | q
  · exact q
  · simp [hc, Array.getElem?_eq_none q] at hg

section
variable {Y : Sys} {h : Heap}

set_option maxHeartbeats 1000000 in
theorem graphtells_spec (L : GrLaw Y) (HA : Y.Has F.rlaw6_GraphTells S_rlaw6_GraphTells) (E : ErrSys Y) (hg : hc h E.gb 0 = some E.hv) {sv sa st : Sl} {N : NetD} (r : NetH h sv sa st N) {v a b : Int} {R : Value → Heap → Prop}
    (hr : ∀ h', Ext h h' → R (.bool true) h') : CallP Y F.rlaw6_GraphTells [netV sv sa st, .int .i64 v, .int .i64 a, .int .i64 b] h R := by
  have G := L.G
  have la := r.ra.len
  refine .of_has HA rfl ?_
  simp [S_rlaw6_GraphTells, FnS.wp, netV]
  refine ef_new_box ?_
  intro B hB gB bB eB
  have cB : ∀ g, Ext g h → Ext g hB := fun g e => Mod.trans e eB
  simp
  refine known6_spec G E (eB.hc hg (fun h => h)) ?_
  intro h1 e1
  have c_h1 : ∀ g, Ext g hB → Ext g h1 := fun g e => Mod.trans e e1
  have x1 := eB.trans e1
  simp (config := { maxDischargeDepth := 60 }) [cB, bB.sk, bB.rk, c_h1]
  refine few_spec L.NM.Few (r.ext x1) ?_
  intro h2 e2
  have c_h2 : ∀ g, Ext g h1 → Ext g h2 := fun g e => Mod.trans e e2
  have x2 := x1.trans e2
  by_cases c1 : fewD N = true
  rotate_left
  · simp [c1]
    exact hr _ x2
  simp (config := { maxDischargeDepth := 60 }) [cB, bB.sk, bB.rk, c_h1, c_h2, c1]
  refine toS_spec G.NT (r.ext x2) c1 ?_
  intro h3 a1 a2 a3 e3 r3
  have c_h3 : ∀ g, Ext g h2 → Ext g h3 := fun g e => Mod.trans e e3
  have x3 := x2.trans e3
  simp
  refine gnew_spec G.GN G.T r3 ?_ ?_
  · intro u h4 e4 hne hu
    have c_h4 : ∀ g, Ext g h3 → Ext g h4 := fun g e => Mod.trans e e4
    have x4 := x3.trans e4
    simp (config := { maxDischargeDepth := 60 }) [cB, bB.sk, bB.rk, c_h1, c_h2, c_h3, c_h4]
    refine rchecknet_spec L.NM.R1 L.NM.RT (r.ext x4) ?_
    intro h5 w e5 hw
    have c_h5 : ∀ g, Ext g h4 → Ext g h5 := fun g e => Mod.trans e e5
    obtain ⟨ps, rfl⟩ := hw.here.shape
    simp
    refine new_store (vs := #[ps.v, .int .i64 (netW N).2]) rfl rfl (by simp) ?_
    intro W hWp gW bWp eWp stW
    have cWp : ∀ g, Ext g h5 → Ext g hWp := fun g e => Mod.trans e eWp
    simp (config := { maxDischargeDepth := 60 }) [cB, bB.sk, bB.rk, c_h1, c_h2, c_h3, c_h4, c_h5, cWp]
    refine stW _ ?_
    intro hW bW eW
    clear cWp stW bWp eWp
    have cW : ∀ g, Ext g h5 → Ext g hW := fun g e => Mod.trans e eW
    have x5 := (x4.trans e5).trans eW
    simp (config := { maxDischargeDepth := 60 }) [cB, bB.sk, bB.rk, c_h1, c_h2, c_h3, c_h4, c_h5, cW, bW.sk, bW.rk]
    refine tells_spec (ps := (netW N).1) (c := (netW N).2) G.Tells E (x5.hc hg (fun h => h)) (hw.here.ext eW) ((hu.ext (e5.trans eW)).here : Err _ _ _ _) netW_len.2 (Nat.le_trans netW_len.1 (by omega)) ?_
    intro h6 e6
    have c_h6 : ∀ g, Ext g hW → Ext g h6 := fun g e => Mod.trans e e6
    simp (config := { maxDischargeDepth := 60 }) [cB, bB.sk, bB.rk, c_h1, c_h2, c_h3, c_h4, c_h5, cW, bW.sk, bW.rk, c_h6, hne]
    exact hr _ (x5.trans e6)
  · intro h4 p S e4 hz g hS
    have c_h4 : ∀ g, Ext g h3 → Ext g h4 := fun g e => Mod.trans e e4
    have x4 := x3.trans e4
    have ok := netOK_iff.1 hz
    have ba := ok.ba
    simp (config := { maxDischargeDepth := 60 }) [cB, bB.sk, bB.rk, c_h1, c_h2, c_h3, c_h4]
    refine rchecknet_spec L.NM.R1 L.NM.RT (r.ext x4) ?_
    intro h5 w e5 hw
    have c_h5 : ∀ g, Ext g h4 → Ext g h5 := fun g e => Mod.trans e e5
    obtain ⟨ps, rfl⟩ := hw.here.shape
    simp
    refine new_store (vs := #[ps.v, .int .i64 (netW N).2]) rfl rfl (by simp) ?_
    intro W hWp gW bWp eWp stW
    have cWp : ∀ g, Ext g h5 → Ext g hWp := fun g e => Mod.trans e eWp
    simp (config := { maxDischargeDepth := 60 }) [cB, bB.sk, bB.rk, c_h1, c_h2, c_h3, c_h4, c_h5, cWp]
    refine stW _ ?_
    intro hW bW eW
    clear cWp stW bWp eWp
    have cW : ∀ g, Ext g h5 → Ext g hW := fun g e => Mod.trans e eW
    have x5 := (x4.trans e5).trans eW
    have g5 := g.ext (e5.trans eW)
    simp (config := { maxDischargeDepth := 60 }) [cB, bB.sk, bB.rk, c_h1, c_h2, c_h3, c_h4, c_h5, cW, bW.sk, bW.rk]
    refine tells_spec (ps := (netW N).1) (c := (netW N).2) G.Tells E (x5.hc hg (fun h => h)) (hw.here.ext eW) (by rw [netW_ok ok]; exact .inl ⟨rfl, rfl⟩) netW_len.2 (Nat.le_trans netW_len.1 (by omega)) ?_
    intro h6 e6
    have c_h6 : ∀ g, Ext g hW → Ext g h6 := fun g e => Mod.trans e e6
    have x6 := x5.trans e6
    have g6 := g5.ext e6
    simp (config := { maxDischargeDepth := 60 }) [cB, bB.sk, bB.rk, c_h1, c_h2, c_h3, c_h4, c_h5, cW, bW.sk, bW.rk, c_h6, hz]
    refine same6_spec G g6 ok.small (r.ext x6) ?_
    intro h7 e7
    have c_h7 : ∀ g, Ext g h6 → Ext g h7 := fun g e => Mod.trans e e7
    have x7 := x6.trans e7
    have g7 := g6.ext e7
    simp (config := { maxDischargeDepth := 60 }) [cB, bB.sk, bB.rk, c_h1, c_h2, c_h3, c_h4, c_h5, cW, bW.sk, bW.rk, c_h6, c_h7]
    refine gouts_spec L.Outs G.vert G.CI g7 (by omega) ?_
    intro h8 s8 e8 o8 _
    have c_h8 : ∀ g, Ext g h7 → Ext g h8 := fun g e => Mod.trans e e8
    have x8 := x7.trans e8
    have g8 := g7.ext e8
    have hi : (if vtxB N.vs.length v = true then outsO N.as v else []) = outsO N.as v := by
      split
      · rfl
      · rename_i c; rw [outsO_none ok.arcs (by simpa using c)]
    rw [hi] at o8
    simp (config := { maxDischargeDepth := 60 }) [cB, bB.sk, bB.rk, c_h1, c_h2, c_h3, c_h4, c_h5, cW, bW.sk, bW.rk, c_h6, c_h7, c_h8]
    refine routs_spec L.R2 (r.ext x8) ba ?_
    intro h9 s9 e9 o9 _
    have c_h9 : ∀ g, Ext g h8 → Ext g h9 := fun g e => Mod.trans e e9
    have x9 := x8.trans e9
    have g9 := g8.ext e9
    simp
    have k9 := outsO_len (as := N.as) (v := v)
    have l8 := o8.row64.len
    refine rsameints_spec G.SameInts (o8.row64.ext e9) o9.row64 (by omega) ?_
    simp (config := { maxDischargeDepth := 60 }) [cB, bB.sk, bB.rk, c_h1, c_h2, c_h3, c_h4, c_h5, cW, bW.sk, bW.rk, c_h6, c_h7, c_h8, c_h9]
    refine gins_spec G.Ins G.vert G.CI g9 (by omega) ?_
    intro h10 s10 e10 o10 _
    have c_h10 : ∀ g, Ext g h9 → Ext g h10 := fun g e => Mod.trans e e10
    have x10 := x9.trans e10
    have g10 := g9.ext e10
    have hi : (if vtxB N.vs.length v = true then insO N.as v else []) = insO N.as v := by
      split
      · rfl
      · rename_i c; rw [insO_none ok.arcs (by simpa using c)]
    rw [hi] at o10
    simp (config := { maxDischargeDepth := 60 }) [cB, bB.sk, bB.rk, c_h1, c_h2, c_h3, c_h4, c_h5, cW, bW.sk, bW.rk, c_h6, c_h7, c_h8, c_h9, c_h10]
    refine rins_spec L.R2 (r.ext x10) ba ?_
    intro h11 s11 e11 o11 _
    have c_h11 : ∀ g, Ext g h10 → Ext g h11 := fun g e => Mod.trans e e11
    have x11 := x10.trans e11
    have g11 := g10.ext e11
    simp
    have k11 := insO_len (as := N.as) (v := v)
    have l10 := o10.row64.len
    refine rsameints_spec G.SameInts (o10.row64.ext e11) o11.row64 (by omega) ?_
    simp (config := { maxDischargeDepth := 60 }) [cB, bB.sk, bB.rk, c_h1, c_h2, c_h3, c_h4, c_h5, cW, bW.sk, bW.rk, c_h6, c_h7, c_h8, c_h9, c_h10, c_h11]
    refine gturn_spec G.Turn G.GS.arc G.T g11 ok ?_
    intro h12 e12
    have c_h12 : ∀ g, Ext g h11 → Ext g h12 := fun g e => Mod.trans e e12
    have x12 := x11.trans e12
    have g12 := g11.ext e12
    simp (config := { maxDischargeDepth := 60 }) [cB, bB.sk, bB.rk, c_h1, c_h2, c_h3, c_h4, c_h5, cW, bW.sk, bW.rk, c_h6, c_h7, c_h8, c_h9, c_h10, c_h11, c_h12]
    refine rturn_spec L.R2 G.RT (r.ext x12) ok ?_
    intro h13 e13
    have c_h13 : ∀ g, Ext g h12 → Ext g h13 := fun g e => Mod.trans e e13
    have x13 := x12.trans e13
    have g13 := g12.ext e13
    simp
    refine gplace_spec G.Place G.GS.arc g13 ?_
    simp (config := { maxDischargeDepth := 60 }) [cB, bB.sk, bB.rk, c_h1, c_h2, c_h3, c_h4, c_h5, cW, bW.sk, bW.rk, c_h6, c_h7, c_h8, c_h9, c_h10, c_h11, c_h12, c_h13]
    refine there_spec L.R2.There la ?_
    intro h14 e14
    have c_h14 : ∀ g, Ext g h13 → Ext g h14 := fun g e => Mod.trans e e14
    have x14 := x13.trans e14
    have g14 := g13.ext e14
    cases c2 : vtxB N.as.length a with
    | false =>
      simp
      refine gfrom_spec G.From G.GS.arc g14 ?_
      simp [fromV, c2]
      refine gto_spec G.To G.GS.arc g14 ?_
      simp [toV, c2]
      refine gweight_spec G.Weight G.GS.arc g14 ?_
      simp [weightV, c2, InfI]
      exact hr _ x14
    | true =>
      simp only [vtxB, decide_eq_true_eq] at c2
      obtain ⟨a, rfl⟩ : ∃ n : Nat, a = n := ⟨a.toNat, by omega⟩
      have ha : a < N.as.length := by omega
      have ha' : (a : Int) < sa.n := by omega
      simp (config := { maxDischargeDepth := 60 }) [cB, bB.sk, bB.rk, c_h1, c_h2, c_h3, c_h4, c_h5, cW, bW.sk, bW.rk, c_h6, c_h7, c_h8, c_h9, c_h10, c_h11, c_h12, c_h13, c_h14, ha, ha', sem_idxa r.ra.ok, r.ra.s0, r.ra.s1]
      refine rins_spec L.R2 (r.ext x14) ba ?_
      intro h15 s15 e15 o15 _
      have c_h15 : ∀ g, Ext g h14 → Ext g h15 := fun g e => Mod.trans e e15
      have x15 := x14.trans e15
      have k15 := insO_len (as := N.as) (v := (nthT N.as a).b)
      have l15 := o15.row64.len
      simp
      refine rplace_spec L.R2.Place o15.row64 (by omega) ?_
      rw [placeF_ins ha]
      simp (config := { maxDischargeDepth := 60 }) [cB, bB.sk, bB.rk, c_h1, c_h2, c_h3, c_h4, c_h5, cW, bW.sk, bW.rk, c_h6, c_h7, c_h8, c_h9, c_h10, c_h11, c_h12, c_h13, c_h14, ha, ha', sem_idxa r.ra.ok, r.ra.s0, r.ra.s1, c_h15]
      refine routs_spec L.R2 (r.ext x15) ba ?_
      intro h16 s16 e16 o16 _
      have x16 := x15.trans e16
      have k16 := outsO_len (as := N.as) (v := (nthT N.as a).a)
      have l16 := o16.row64.len
      simp
      refine rplace_spec L.R2.Place o16.row64 (by omega) ?_
      rw [placeF_outs ha]
      simp
      exact hr _ x16

-- rows of changes
def nthA (l : List Act5) (i : Nat) : Act5 := l.getD i ⟨0, 0, 0, 0, 0⟩
structure Row5 (h : Heap) (s : Sl) (l : List Act5) : Prop where
  ok : s.ok
  len : l.length = s.n
  val : ∀ i, i < l.length → rd h s.b (s.o + i * 5) 5 = some [.int .i64 (nthA l i).kd, .int .i64 (nthA l i).a, .int .i64 (nthA l i).i, .int .i64 (nthA l i).o, .int .i64 (nthA l i).w]
theorem Row5.sk {s : Sl} {l : List Act5} (r : Row5 h s l) (h' : Heap) (i : Nat) (e : Ext h h') (hi : i < l.length) : Rm.rd h' s.b (s.o + i * 5) 5 = some [.int .i64 (nthA l i).kd, .int .i64 (nthA l i).a, .int .i64 (nthA l i).i, .int .i64 (nthA l i).o, .int .i64 (nthA l i).w] := e.rd (r.val i hi) (fun h => h)
def playN (N : NetD) (l : List Act5) : NetD := l.foldl doN N
theorem playN_ok {l : List Act5} : ∀ {N : NetD}, NetOK N → NetOK (playN N l) := by
  induction l with
  | nil => intro N ok; exact ok
  | cons t r ih => intro N ok; exact ih (doN_ok ok)
theorem playN_snoc {N : NetD} {l : List Act5} {i : Nat} (hi : i < l.length) : playN N (l.take (i + 1)) = doN (playN N (l.take i)) (nthA l i) := by
  rw [playN, List.take_succ_eq_append_getElem hi, List.foldl_append]
  simp [nthA, hi, playN]

def GpI (p B : Nat) (lo : Nat) (sl : Sl) (N : NetD) (l : List Act5) (h0 : Heap) (e : List Value) (h' : Heap) : Prop :=
  ∃ (i : Nat) (s1 s2 s3 : Sl) (Fb S : Nat → Prop) (v0 v3 v7 v8 v9 v10 v11 v12 v13 v14 v15 v16 v17 v18 : Value), e = [v0, sl.v, .pointer (some ⟨B, 0, none⟩), v3, .pointer (some ⟨p, 0, none⟩), .nilIface, .int .i64 i, v7, v8, v9, v10, v11, v12, v13, v14, v15, v16, v17, v18] ∧ i ≤ sl.n ∧ Blk h' B #[s1.v, s2.v, s3.v] ∧ GraphA h' p (playN N (l.take i)) S ∧ NetF Fb h' s1 s2 s3 (playN N (l.take i)) ∧ (∀ b, Fb b → ¬ S b) ∧ (∀ b, S b → lo ≤ b ∧ b ≠ B) ∧ (∀ b, Fb b → b ≠ B) ∧ Mod (fun j => j = B ∨ lo ≤ j) h0 h'
def GpT1 (p B : Nat) (sl : Sl) (n : Nat) (h0 : Heap) (e : List Value) (h' : Heap) : Prop :=
  ∃ (i : Nat) (v0 v3 v5 v6 v7 v8 v10 v11 v12 v13 v14 v15 v16 v17 v18 : Value), e = [v0, sl.v, .pointer (some ⟨B, 0, none⟩), v3, .pointer (some ⟨p, 0, none⟩), v5, v6, v7, v8, .int .i64 i, v10, v11, v12, v13, v14, v15, v16, v17, v18] ∧ i ≤ n ∧ Ext h0 h'
def GpT2 (p B i' : Nat) (sl : Sl) (n : Nat) (h0 : Heap) (e : List Value) (h' : Heap) : Prop :=
  ∃ (i : Nat) (v0 v3 v5 v6 v7 v8 v11 v12 v13 v14 v15 v16 v17 v18 : Value), e = [v0, sl.v, .pointer (some ⟨B, 0, none⟩), v3, .pointer (some ⟨p, 0, none⟩), v5, v6, v7, v8, .int .i64 (i'), .int .i64 i, v11, v12, v13, v14, v15, v16, v17, v18] ∧ i ≤ n ∧ i ≤ 40 ∧ Ext h0 h'
theorem rd_lt {b o n : Nat} {l : List Value} (hr : Rm.rd h b o (n + 1) = some l) : b < h.size := by
  rcases Nat.lt_or_ge b h.size with q | q
  · exact q
  · simp [Rm.rd, Rm.hc, Array.getElem?_eq_none q] at hr

set_option maxHeartbeats 1000000 in
theorem graphplays_spec (L : GrLaw Y) (HA : Y.Has F.rlaw6_GraphPlays S_rlaw6_GraphPlays) (E : ErrSys Y) (hg : hc h E.gb 0 = some E.hv) {sv sa st sl : Sl} {N : NetD} {l : List Act5} (r : NetH h sv sa st N) (rl : Row5 h sl l) {R : Value → Heap → Prop}
    (hr : ∀ h', Ext h h' → R (.bool true) h') : CallP Y F.rlaw6_GraphPlays [netV sv sa st, sl.v] h R := by
  have G := L.G
  have ll := rl.len
  have lgb := hg_lt hg
  refine .of_has HA rfl ?_
  simp [S_rlaw6_GraphPlays, FnS.wp, netV]
  refine ef_new_box ?_
  intro B hB gB bB eB
  have cB : ∀ g, Ext g h → Ext g hB := fun g e => Mod.trans e eB
  have lB := bB.lt
  have zB := eB.size
  simp
  refine known6_spec G E (eB.hc hg (fun h => h)) ?_
  intro h1 e1
  have c_h1 : ∀ g, Ext g hB → Ext g h1 := fun g e => Mod.trans e e1
  have x1 := eB.trans e1
  simp (config := { maxDischargeDepth := 60 }) [cB, bB.sk, bB.rk, c_h1]
  refine mayS_spec L.NM (r.ext x1) ?_
  intro h2 e2
  have c_h2 : ∀ g, Ext g h1 → Ext g h2 := fun g e => Mod.trans e e2
  have x2 := x1.trans e2
  by_cases c1 : mayD N = true
  rotate_left
  · simp [c1]
    exact hr _ x2
  obtain ⟨cf, ok⟩ := may_ok c1
  by_cases c2 : 30 < sl.n
  · have c2' : (30 : Int) < sl.n := by omega
    simp [c1, c2']
    exact hr _ x2
  have c2' : ¬ (30 : Int) < sl.n := by omega
  simp (config := { maxDischargeDepth := 60 }) [cB, bB.sk, bB.rk, c_h1, c_h2, c1, c2']
  refine toS_spec G.NT (r.ext x2) cf ?_
  intro h3 a1 a2 a3 e3 r3
  have c_h3 : ∀ g, Ext g h2 → Ext g h3 := fun g e => Mod.trans e e3
  have x3 := x2.trans e3
  simp
  refine gnew_spec G.GN G.T r3 (fun u h4 _ hne _ => absurd (by rw [netW_ok ok]; rfl) hne) ?_
  intro h4 p S e4 hz g hS
  have x4 := x3.trans e4
  have z3 := (e1.trans (e2.trans e3)).size
  have bB4 := bB.ext ((e1.trans (e2.trans e3)).trans e4)
  have f4 := r.toF.ext x4
  simp
  refine wp_loop' (GpI p B hB.size sl N l h4) (fun e _ => sl.n - argI e 6) ⟨0, sv, sa, st, (fun b => b < h.size), S, _, _, _, _, _, _, _, _, _, _, _, _, _, _, rfl, by omega, bB4, g, f4, (fun b hb hs => by have := hS b hs; omega), (fun b hs => by have := hS b hs; omega), (fun b hb => by omega), Mod.refl _⟩ ?_
  clear g f4 bB4
  rintro e h5 ⟨i, s1, s2, s3, Fb, S, v0, v3, v7, v8, v9, v10, v11, v12, v13, v14, v15, v16, v17, v18, rfl, hi, bB5, g, f, hd, hSlo, hFB, m5⟩
  have x5 : Ext h h5 := Mod.ext x4 m5 (fun j hj => by omega)
  have z5 := x5.size
  have okN := playN_ok (l := l.take i) ok
  have z45 := m5.size
  have z34 := e4.size
  by_cases c : i < sl.n
  · have c' : (i : Int) < sl.n := by omega
    have ci : i < l.length := by omega
    have w1 : IntKind.i64.wrap ((i : Int) + 1) = (i : Int) + 1 := i64_wrap (by omega)
    have hsn := playN_snoc (N := N) ci
    simp [c', rd_blk bB5, sem_idxa rl.ok, rl.sk h5 i x5 ci]
    have hgS : ¬ S E.gb := fun hs => by have := hSlo _ hs; omega
    refine ⟨?_, ?_⟩
    · rw [show (Value.agg #[s1.v, s2.v, s3.v]) = netV s1 s2 s3 from rfl]
      refine do6_spec G E (x5.hc hg (fun h => h)) hgS g f hd okN ?_
      intro h6 v hv
      obtain ⟨t1, t2, t3, F', S', rfl, g6, f6, hS6, hF6, hd6, m6⟩ := hv
      rw [← hsn] at g6 f6
      have z6 := m6.size
      have bB6 := m6.blk bB5 (fun hs => (hSlo _ hs).2 rfl)
      simp [netV]
      refine new_store (vs := #[t1.v, t2.v, t3.v]) rfl rfl (by simp) ?_
      intro C hCp gC bCp eCp stC
      simp
      refine stC _ ?_
      intro hC bC eC
      clear stC bCp eCp
      have zC := eC.size
      have gQ := g6.ext eC
      have fQ := f6.ext eC
      have bQ := bB6.ext eC
      have hS' : ∀ b, S' b → hB.size ≤ b ∧ b ≠ B := fun b hb => by
        rcases hS6 b hb with q | q
        · exact hSlo b q
        · omega
      have hF' : ∀ b, F' b → b ≠ B := fun b hb => by
        rcases hF6 b hb with q | q
        · exact hFB b q
        · omega
      have mQ : Mod (fun j => j = B ∨ hB.size ≤ j) h5 hC := (m6.mono fun b _ hs => .inr (hSlo b hs).1).trans (eC.mono fun _ _ h => h.elim)
      simp [rd_blk bC]
      refine same6_spec G gQ (playN_ok (l := l.take (i + 1)) ok).small fQ.here ?_
      intro h7 e7
      have z7 := e7.size
      have bC7 := bC.ext e7
      simp [rd_blk bC7]
      refine ef_store_box (bQ.ext e7) rfl rfl (by simp) ?_
      intro h8 bB8 m8
      have z8 := m8.size
      simp [w1]
      refine ⟨⟨i + 1, t1, t2, t3, F', S', _, _, _, _, _, _, _, _, _, _, _, _, _, _, rfl, by omega, bB8, ((gQ.ext e7).mod m8 (fun b hb hj => (hS' b hb).2 hj)), ((fQ.ext e7).mod m8 (fun b hb hj => hF' b hb hj)), hd6, hS', hF', ?_⟩, by simp [argI]; omega⟩
      exact ((m5.trans mQ).trans (e7.mono fun _ _ h => h.elim)).trans (m8.mono fun _ _ h => .inl h)
    · refine ef_new_box ?_
      intro C h6' gC bC0 eC0
      have lC := bC0.lt
      have x6 := x5.trans eC0
      have zc0 := eC0.size
      simp [rd_blk (bB5.ext eC0), rl.sk h6' i x6 ci]
      rw [show (Value.agg #[s1.v, s2.v, s3.v]) = netV s1 s2 s3 from rfl]
      refine do6_spec G E (x6.hc hg (fun h => h)) hgS (g.ext eC0) (f.ext eC0) hd okN ?_
      intro h6 v hv
      obtain ⟨t1, t2, t3, F', S', rfl, g6, f6, hS6, hF6, hd6, m6⟩ := hv
      rw [← hsn] at g6 f6
      have z6 := m6.size
      have lS := g.lt
      have lF := f.2
      have bB6 := m6.blk (bB5.ext eC0) (fun hs => (hSlo _ hs).2 rfl)
      have bC6 := m6.blk bC0 (fun hs => by have := lS _ hs; omega)
      have m6 := (eC0.mono (S' := S) fun _ _ h => h.elim).trans m6
      simp [netV]
      refine ef_store_box bC6 rfl rfl (by simp) ?_
      intro hC bC mC
      have hSC : ∀ b, S' b → b ≠ C := fun b hb e => by
        rcases hS6 b hb with q | q
        · have := g.lt b q; omega
        · omega
      have hFC : ∀ b, F' b → b ≠ C := fun b hb e => by
        rcases hF6 b hb with q | q
        · have := f.2 b q; omega
        · omega
      have gQ := g6.mod mC (fun b hb hj => hSC b hb hj)
      have fQ := f6.mod mC (fun b hb hj => hFC b hb hj)
      have bQ := mC.blk bB6 (by omega)
      have hS' : ∀ b, S' b → hB.size ≤ b ∧ b ≠ B := fun b hb => by
        rcases hS6 b hb with q | q
        · exact hSlo b q
        · omega
      have hF' : ∀ b, F' b → b ≠ B := fun b hb => by
        rcases hF6 b hb with q | q
        · exact hFB b q
        · omega
      have mQ : Mod (fun j => j = B ∨ hB.size ≤ j) h5 hC := (m6.mono fun b _ hs => .inr (hSlo b hs).1).trans (mC.mono fun j _ hj => .inr (by omega))
      simp [rd_blk bC]
      refine same6_spec G gQ (playN_ok (l := l.take (i + 1)) ok).small fQ.here ?_
      intro h7 e7
      have z7 := e7.size
      have bC7 := bC.ext e7
      simp [rd_blk bC7]
      refine ef_store_box (bQ.ext e7) rfl rfl (by simp) ?_
      intro h8 bB8 m8
      have z8 := m8.size
      simp [w1]
      refine ⟨⟨i + 1, t1, t2, t3, F', S', _, _, _, _, _, _, _, _, _, _, _, _, _, _, rfl, by omega, bB8, ((gQ.ext e7).mod m8 (fun b hb hj => (hS' b hb).2 hj)), ((fQ.ext e7).mod m8 (fun b hb hj => hF' b hb hj)), hd6, hS', hF', ?_⟩, by simp [argI]; omega⟩
      exact ((m5.trans mQ).trans (e7.mono fun _ _ h => h.elim)).trans (m8.mono fun _ _ h => .inl h)
  have c' : ¬ (i : Int) < sl.n := by omega
  simp [c']
  refine wp_loop' (GpT1 p B sl N.as.length h5) (fun e _ => N.as.length - argI e 9) ⟨0, _, _, _, _, _, _, _, _, _, _, _, _, _, _, _, rfl, by omega, Mod.refl _⟩ ?_
  have hlen : (playN N (l.take i)).as.length = N.as.length := by
    have key : ∀ (l : List Act5) (N : NetD), (playN N l).as.length = N.as.length := by
      intro l
      induction l with
      | nil => intro N; rfl
      | cons t r ih =>
        intro N
        rw [show playN N (t :: r) = playN (doN N t) r from rfl, ih]
        unfold doN setN bendN
        split
        · split <;> simp
        · split <;> simp
    exact key _ _
  have r5 := f.here
  have l5 := r5.ra.len
  rintro e h6 ⟨a, v0, v3, v5, v6, v7, v8, v10, v11, v12, v13, v14, v15, v16, v17, v18, rfl, ha, e6⟩
  have bB6 := bB5.ext e6
  by_cases d : a < N.as.length
  · have d' : (a : Int) < s2.n := by omega
    have w2 : IntKind.i64.wrap ((a : Int) + 1) = (a : Int) + 1 := i64_wrap (by have := ok.ba; omega)
    simp [bB6.hc, d']
    refine wp_loop' (GpT2 p B a sl N.as.length h6) (fun e _ => N.as.length - argI e 10) ⟨0, _, _, _, _, _, _, _, _, _, _, _, _, _, _, rfl, by omega, by omega, Mod.refl _⟩ ?_
    rintro e h7 ⟨b, v0, v3, v5, v6, v7, v8, v11, v12, v13, v14, v15, v16, v17, v18, rfl, hb, hb4, e7⟩
    have bB7 := bB6.ext e7
    by_cases f1 : b < N.as.length
    · have f1' : (b : Int) < s2.n := by omega
      by_cases f2 : b < 40
      · have f2' : (b : Int) < 40 := by omega
        have w3 : IntKind.i64.wrap ((b : Int) + 1) = (b : Int) + 1 := i64_wrap (by omega)
        simp [bB7.hc, f1', f2', rd_blk bB7]
        refine gturn_spec G.Turn G.GS.arc G.T (g.ext (e6.trans e7)) okN ?_
        intro h8 e8
        simp [rd_blk (bB7.ext e8)]
        refine rturn_spec L.R2 G.RT (r5.ext ((e6.trans e7).trans e8)) okN ?_
        intro h9 e9
        simp [w3]
        refine ⟨⟨b + 1, _, _, _, _, _, _, _, _, _, _, _, _, _, _, rfl, by omega, by omega, (e7.trans e8).trans e9⟩, by simp [argI]; omega⟩
      · have f2' : ¬ (b : Int) < 40 := by omega
        simp [bB7.hc, f1', f2', w2]
        refine ⟨⟨a + 1, _, _, _, _, _, _, _, _, _, _, _, _, _, _, _, rfl, by omega, e6.trans e7⟩, by simp [argI]; omega⟩
    · have f1' : ¬ (b : Int) < s2.n := by omega
      simp [bB7.hc, f1', w2]
      refine ⟨⟨a + 1, _, _, _, _, _, _, _, _, _, _, _, _, _, _, _, rfl, by omega, e6.trans e7⟩, by simp [argI]; omega⟩
  · have d' : ¬ (a : Int) < s2.n := by omega
    simp [bB6.hc, d']
    exact hr _ (x5.trans e6)
end
end Go.Rm

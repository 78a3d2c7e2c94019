import Derived.Test.YtgmbpmnbpakhbaaGreatDoorRBatch1
import Derived.Test.YtgmbpmnbpakhbaaGreatDoorRFlow1
import Derived.Test.YtgmbpmnbpakhbaaGreatDoorSNums

/- What stands over a net: rows of rows that are copied. -/
set_option linter.unusedSimpArgs false
set_option linter.unusedVariables false
namespace Go.Rm
structure TwinFns (Y : Sys) : Prop where
  fresh : Y.Has F.over_fresh S_over_fresh
  twin : Y.Has F.over_twin S_over_twin
section
variable {Y : Sys} {h h' : Heap}
theorem fresh_spec (T : TwinFns Y) {s : Sl} {l : List Int} (r : Row64 h s l) (hbig : l.length ≤ 1000000) {R : Value → Heap → Prop}
    (hr : ∀ h' u, Ext h h' → Own h' 1 u (ints64 l) → (u.nl = true ∨ h.size ≤ u.b) → R u.v h') : CallP Y F.over_fresh [s.v] h R := by
  refine .of_has T.fresh rfl ?_
  simp [S_over_fresh, FnS.wp]
  rw [show (Value.slice none 0 0) = Sl.nil.v from rfl]
  refine ef_clone64 (s0 := Sl.nil) r (by rw [← r.len]; omega) Own.nil (.inl rfl) (Mod.refl _) ?_
  intro u h1 o1 hu e1
  simp
  exact hr h1 u e1 o1 hu
def TwnI (B rb M : Nat) (v0 : Value) (s : Sl) (L : List (List Int)) (h0 : Heap) (e : List Value) (h' : Heap) : Prop :=
  ∃ (i : Nat) (s1 : Sl) (P : List (List Int × Sl)) (v4 v8 : Value), e = [v0, .pointer (some ⟨B, 0, none⟩), .pointer (some ⟨rb, 0, none⟩), .pointer (some ⟨M, 0, none⟩), v4, s.v, .int .i64 s.n, .int .i64 i, v8] ∧ i ≤ L.length ∧ Blk h' M #[s1.v] ∧ Own h' 1 s1 (P.map fun p => p.2.v) ∧ P.map Prod.fst = L.take i ∧ RowsOK h0.size h' s1 P ∧ (s1.nl = true ∨ h0.size ≤ s1.b) ∧ Mod (fun j => j = M) h0 h'
theorem twin_spec (T : TwinFns Y) {s : Sl} {L : List (List Int)} (r : RowL h s L) (hbig : s.n ≤ 1000) (hrow : ∀ i, i < L.length → (nthL L i).length ≤ 1000000) {R : Value → Heap → Prop}
    (hr : ∀ h' s', Ext h h' → (∀ g, Mod (fun j => j < h.size) h' g → RowL g s' L) → R (ptV s') h') : CallP Y F.over_twin [ptV s] h R := by
  refine .of_has T.twin rfl ?_
  have lL := r.len
  simp [S_over_twin, FnS.wp, ptV]
  refine ef_new_box ?_
  intro B h1 g1 B1 e1
  simp
  refine ef_new_box ?_
  intro rb h2 g2 R2 e2
  have R2 : Blk h2 rb #[.slice none 0 0] := R2
  simp
  refine ef_new_box ?_
  intro M h3 g3 M3 e3
  have M3 : Blk h3 M #[.slice none 0 0] := M3
  have x3 := (e1.trans e2).trans e3
  have lM := M3.lt
  have lR := R2.lt
  have lB := B1.lt
  have z1 := e1.size
  have z2 := e2.size
  have z3 := e3.size
  have B3 := (B1.ext e2).ext e3
  have R3 := R2.ext e3
  simp [B3.hc]
  refine wp_loop' (TwnI B rb M (.agg #[s.v]) s L h3) (fun e _ => L.length - argI e 7) ⟨0, Sl.nil, [], _, _, rfl, by omega, M3, by simpa using Own.nil, by simp, by intro q hq; simp at hq, .inl rfl, Mod.refl _⟩ ?_
  rintro e h4 ⟨i, s1, P, v4, v8, rfl, hi, M4, o4, hP, hT, hs1, m4⟩
  have B4 := m4.blk B3 (by omega)
  have R4 := m4.blk R3 (by omega)
  have x4 : Ext h h4 := Mod.ext x3 m4 (fun j hj => by omega)
  have n4 := o4.1
  simp at n4
  have lenP : P.length = i := by
    have := congrArg List.length hP
    simp at this
    omega
  have hs1' : s1.nl = false → h3.size ≤ s1.b := fun hn => hs1.resolve_left (by rw [hn]; simp)
  have l1 : s1.nl = false → s1.b < h4.size := fun hn => o4.lt hn
  have z4 := m4.size
  by_cases c : i < s.n
  rotate_left
  · have c' : ¬ (i : Int) < s.n := by omega
    simp [B4.hc, c', rd_blk M4]
    refine ef_store_box R4 rfl rfl (by simp) ?_
    intro h5 R5 m5
    simp
    refine resP_x rfl R5 rfl ?_
    rw [List.take_of_length_le (by omega)] at hP
    refine hr h5 s1 (Mod.ext x4 m5 (fun j hj => by omega)) (fun g mg => ?_)
    refine Own.rowL ((o4.mod m5 (fun hn => by have := hs1' hn; omega)).mod mg (fun hn hb => by have := hs1' hn; omega)) hP ?_
    intro q hq
    obtain ⟨a, b⟩ := hT q hq
    exact (a.mod m5 (fun hn => by have := (b hn).1; omega)).mod mg (fun hn hb => by have := (b hn).1; omega)
  have c' : (i : Int) < s.n := by omega
  have w1 : IntKind.i64.wrap ((i : Int) + 1) = (i : Int) + 1 := i64_wrap (by omega)
  obtain ⟨u, hu, ru⟩ := r.at (i := i) c
  have lu := ru.len
  have hrl := hrow i (by omega)
  simp [B4.hc, M4.hc, c', c, sem_idxa r.ok, hu, x4]
  refine fresh_spec T (ru.ext x4) (by omega) ?_
  intro h6 u6 e46 o6 hu6
  have M6 := M4.ext e46
  simp [M6.hc]
  refine ef_bslice1_bx rfl ?_
  intro b7 h7 g7 V7 e7
  have M7 := M6.ext e7
  have o7 := (o4.ext' e46).ext' e7
  have z7 := e7.size
  simp [M7.hc]
  refine ef_append1b (bytes := 24) rfl o7 V7 (by omega) (by omega) ?_
  intro s8 h8 o8 hn8 m8 hs8
  have M8 := m8.blk M7 (fun hq => by have := hs1' hq.1; omega)
  have z6 := e46.size
  have z8 := m8.size
  have hs8' : s8.nl = false → h3.size ≤ s8.b := by
    intro hq
    rcases hs8 with ⟨q1, q2⟩ | ⟨q1, q2⟩
    · rw [q1]; exact hs1' (by rw [← q2]; exact hq)
    · omega
  simp
  refine stB M8 (by simp) ?_
  intro h9 M9 m9
  have z9 := m9.size
  simp [w1]
  have unl : nthL L i ≠ [] → u6.nl = false ∧ u6.b < h6.size := fun hne => by
    obtain ⟨_, hb, _, hnl⟩ := o6.blk (i := 0) (by have := List.length_pos_iff.2 hne; simpa [ints64] using this)
    exact ⟨hnl, o6.lt hnl⟩
  have ub : nthL L i ≠ [] → h4.size ≤ u6.b := fun hne => hu6.resolve_left (by rw [(unl hne).1]; simp)
  have sne : ∀ k, k < h6.size → (s1.nl = false → k ≠ s1.b) → s8.nl = false → k ≠ s8.b := by
    intro k hk h1 hq
    rcases hs8 with ⟨q1, q2⟩ | ⟨q1, q2⟩
    · rw [q1]; exact h1 (by rw [← q2]; exact hq)
    · omega
  have o9 : Own h9 1 s8 ((P ++ [(nthL L i, u6)]).map fun p => p.2.v) := by
    have := o8.mod m9 (fun hq => by have := hs8' hq; omega)
    simpa using this
  have hT9 : RowsOK h3.size h9 s8 (P ++ [(nthL L i, u6)]) := by
    intro q hq
    rcases List.mem_append.1 hq with g | g
    · obtain ⟨g1, g3⟩ := hT q g
      refine ⟨(((g1.ext e46).ext e7).mod m8 (fun hn hq => (g3 hn).2.1 hq.1 hq.2)).mod m9 (fun hn => by have := (g3 hn).1; omega), fun hn => ⟨(g3 hn).1, ?_, by have := (g3 hn).2.2; omega⟩⟩
      exact sne _ (by have := (g3 hn).2.2; omega) (g3 hn).2.1
    · simp only [List.mem_singleton] at g
      subst g
      refine ⟨((o6.row64.ext e7).mod m8 (fun hn hq => by have := ub hn; have := l1 hq.1; have := hq.2; omega)).mod m9 (fun hn => by have := ub hn; omega), fun hn => ⟨?_, ?_, ?_⟩⟩
      · have := ub hn; show h3.size ≤ u6.b; omega
      · exact sne u6.b (unl hn).2 (fun hq => by have := ub hn; have := l1 hq; omega)
      · have := (unl hn).2; show u6.b < h9.size; omega
  have hP9 : (P ++ [(nthL L i, u6)]).map Prod.fst = L.take (i + 1) := by
    rw [List.take_succ_eq_append_getElem (by omega), List.map_append, hP, nthL_eq (by omega)]; simp
  have hN : s8.nl = true ∨ h3.size ≤ s8.b := by
    cases hq : s8.nl with
    | true => exact .inl rfl
    | false => exact .inr (hs8' hq)
  have mm : Mod (fun j => j = M) h3 h9 := by
    have q1 : Mod (fun j => j = M ∨ (s1.nl = false ∧ j = s1.b)) h4 h9 :=
      (((e46.trans e7).mono (fun _ _ h => h.elim)).trans (m8.mono (fun _ _ h => .inr h))).trans (m9.mono (fun _ _ h => .inl h))
    refine Mod.then m4 q1 ?_
    intro k hk hq
    rcases hq with hq | hq
    · exact hq
    · have := hs1' hq.1; omega
  refine ⟨⟨i + 1, s8, P ++ [(nthL L i, u6)], _, _, rfl, by omega, by simpa using M9, o9, hP9, hT9, hN, mm⟩, by simp [argI]; omega⟩
end
end Go.Rm

/- What stands over a net: made. -/
set_option linter.unusedSimpArgs false
set_option linter.unusedVariables false
namespace Go.Rm
/-- what stands over a net and cells of it -/
def OverH (h : Heap) (op : Nat) (N : NetD) (L : List (List Int)) : Prop :=
  ∃ (q f t g st : Sl) (z : Int), Blk h op #[q.v, f.v, t.v, g.v, st.v, .int .i64 z] ∧ RowL h q L ∧ GatesH h g N L ∧ Row64 h f (N.as.map fun t => t.a) ∧ Row64 h t (N.as.map fun t => t.b)
structure OverFns (Y : Sys) : Prop where
  New : Y.Has F.over_New S_over_New
  Part : Y.Has F.over_Over_Part S_over_Over_Part
  Levels : Y.Has F.over_Over_Levels S_over_Over_Levels
  Cells : Y.Has F.over_Over_Cells S_over_Over_Cells
  T : TwinFns Y
  GO : GateOf Y
  From : Y.Has F.graph_Graph_From S_graph_Graph_From
  Arcs : Y.Has F.graph_Graph_Arcs S_graph_Graph_Arcs
section
variable {Y : Sys} {h h' : Heap}
def NwI1 (p B op : Nat) (v1 : Value) (q g : Sl) (N : NetD) (h0 : Heap) (e : List Value) (h' : Heap) : Prop :=
  ∃ (i : Nat) (f t : Sl) (v7 v8 v9 v10 v11 v12 v15 v16 v17 v18 v19 v20 v21 v22 v23 : Value), e = [.pointer (some ⟨p, 0, none⟩), v1, .pointer (some ⟨B, 0, none⟩), .pointer none, .nilIface, .nilIface, .pointer (some ⟨op, 0, none⟩), v7, v8, v9, v10, v11, v12, .int .i64 N.as.length, .int .i64 i, v15, v16, v17, v18, v19, v20, v21, v22, v23] ∧ i ≤ N.as.length ∧
    Blk h' op #[q.v, f.v, t.v, g.v, .slice none 0 0, .int .i64 0] ∧ Own h' 1 f (ints64 ((N.as.take i).map fun t => t.a)) ∧ Own h' 1 t (ints64 ((N.as.take i).map fun t => t.b)) ∧ (f.nl = false → h0.size ≤ f.b) ∧ (t.nl = false → h0.size ≤ t.b) ∧ (f.nl = false → t.nl = false → f.b ≠ t.b) ∧ Mod (fun j => j = op) h0 h'
def NwI2 (p B op : Nat) (v1 : Value) (q f t g : Sl) (h0 : Heap) (e : List Value) (h' : Heap) : Prop :=
  ∃ (i : Nat) (st : Sl) (cs : List Value) (z : Int) (v7 v8 v9 v10 v11 v12 v13 v14 v15 v19 v20 v21 v22 v23 : Value), e = [.pointer (some ⟨p, 0, none⟩), v1, .pointer (some ⟨B, 0, none⟩), .pointer none, .nilIface, .nilIface, .pointer (some ⟨op, 0, none⟩), v7, v8, v9, v10, v11, v12, v13, v14, v15, g.v, .int .i64 g.n, .int .i64 i, v19, v20, v21, v22, v23] ∧ i ≤ g.n ∧
    Blk h' op #[q.v, f.v, t.v, g.v, st.v, .int .i64 z] ∧ Own h' 1 st cs ∧ cs.length = i ∧ (st.nl = false → h0.size ≤ st.b) ∧ Mod (fun j => j = op) h0 h'
def NwI3 (p B op W n i : Nat) (v1 : Value) (q f t g st u : Sl) (h0 : Heap) (e : List Value) (h' : Heap) : Prop :=
  ∃ (j : Nat) (vs : List Value) (z : Int) (v7 v10 v11 v12 v13 v14 v15 v19 v23 : Value), e = [.pointer (some ⟨p, 0, none⟩), v1, .pointer (some ⟨B, 0, none⟩), .pointer none, .nilIface, .nilIface, .pointer (some ⟨op, 0, none⟩), v7, u.v, .slice (some ⟨W, 0, none⟩) n n, v10, v11, v12, v13, v14, v15, g.v, .int .i64 g.n, .int .i64 i, v19, u.v, .int .i64 n, .int .i64 j, v23] ∧ j ≤ n ∧
    Blk h' op #[q.v, f.v, t.v, g.v, st.v, .int .i64 z] ∧ Own h' 1 (Sl.at W n n) vs ∧ Mod (fun k => k = op ∨ k = W) h0 h'
set_option maxHeartbeats 2000000 in
theorem overnew_spec (O : OverFns Y) {p : Nat} {N : NetD} {S : Nat → Prop} {L : List (List Int)} {s : Sl} (g : GraphA h p N S) (r : RowL h s L) (ok : NetOK N) (pk : PartOK N.vs.length L) {R : Value → Heap → Prop}
    (hr : ∀ h' op, Ext h h' → h.size ≤ op → (∀ k, Mod (fun j => j < h.size) h' k → OverH k op N L) → R (.tuple #[.pointer (some ⟨op, 0, none⟩), .nilIface]) h') : CallP Y F.over_New [.pointer (some ⟨p, 0, none⟩), ptV s] h R := by
  refine .of_has O.New rfl ?_
  have lL := r.len
  have bL := pk.bL
  have bN := pk.bn
  have bA := ok.ba
  have hrow : ∀ i, i < L.length → (nthL L i).length ≤ 1000000 := fun i hi => by
    have := (cells_row pk hi).1
    omega
  simp [S_over_New, FnS.wp, ptV]
  refine ef_new_box ?_
  intro B h1 g1 B1 e1
  have z1 := e1.size
  simp [rd_blk B1]
  refine gverts_spec O.GO.R.G.Verts (g.ext e1) ?_
  simp [rd_blk B1]
  refine pcheck_spec O.GO.P (r.ext e1) pk ?_
  intro h2 e2
  have x2 := e1.trans e2
  have B2 := B1.ext e2
  have z2 := e2.size
  simp [rd_blk B2]
  refine twin_spec O.T (r.ext x2) (by omega) hrow ?_
  intro h3 q e3 fq
  have x3 := x2.trans e3
  have B3 := B2.ext e3
  have z3 := e3.size
  simp [rd_blk B3]
  rw [show (Value.agg #[s.v]) = ptV s from rfl]
  refine gateofF_spec O.GO (g.ext x3) (r.ext x3) ok pk ?_
  intro h4 gt e4 fg
  have x4 := x3.trans e4
  have z4 := e4.size
  have lgt := (fg h4 (Mod.refl _)).len
  have hb : IOp.sem Y h4 (.build #[.slice none 0 0, .slice none 0 0, .slice none 0 0, .slice none 0 0, .slice none 0 0, .int .i64 0] [(0, 1), (1, 1), (2, 1), (3, 1), (4, 1), (5, 1)] [0, 3]) [ptV q, gt.v] = some (.agg #[q.v, .slice none 0 0, .slice none 0 0, gt.v, .slice none 0 0, .int .i64 0]) := by
    simp [IOp.sem, Instr.fill, ptV, Value.cells, Sl.v]
  simp [hb]
  refine ef_new_box ?_
  intro op h5 g5 O5 e5
  have O5 : Blk h5 op #[q.v, .slice none 0 0, .slice none 0 0, gt.v, .slice none 0 0, .int .i64 0] := O5
  have x5 := x4.trans e5
  have z5 := e5.size
  have lO := O5.lt
  simp
  refine garcs_spec O.Arcs (g.ext x5) ?_
  simp
  refine wp_loop' (NwI1 p B op (.agg #[s.v]) q gt N h5) (fun e _ => N.as.length - argI e 14) ⟨0, Sl.nil, Sl.nil, _, _, _, _, _, _, _, _, _, _, _, _, _, _, _, rfl, by omega, O5, Own.nil, Own.nil, fun h => (by cases h), fun h => (by cases h), fun h => (by cases h), Mod.refl _⟩ ?_
  rintro e h6 ⟨i, f, t, v7, v8, v9, v10, v11, v12, v15, v16, v17, v18, v19, v20, v21, v22, v23, rfl, hi, O6, of, ot, ff, ft, dft, m6⟩
  have x6 : Ext h h6 := Mod.ext x5 m6 (fun j hj => by omega)
  have z6 := m6.size
  have lf := of.1
  have lt := ot.1
  simp at lf lt
  by_cases c : i < N.as.length
  · have c' : (i : Int) < N.as.length := by omega
    have w1 : IntKind.i64.wrap ((i : Int) + 1) = (i : Int) + 1 := i64_wrap (by omega)
    have hv : vtxB N.as.length (i : Int) = true := by simp [vtxB]; omega
    have hfi : fromV N (i : Int) = (nthT N.as i).a := by simp [fromV, hv]
    have hti : toV N (i : Int) = (nthT N.as i).b := by simp [toV, hv]
    have htk : N.as.take (i + 1) = N.as.take i ++ [nthT N.as i] := by rw [List.take_succ_eq_append_getElem c, nthT_eq c]
    simp [c', O6.hc]
    refine gfrom_spec O.From O.GO.R.G.arc (g.ext x6) ?_
    rw [hfi]
    simp [O6.hc]
    refine ef_bslice1_bx rfl ?_
    intro b7 h7 g7 V7 e7
    have O7 := O6.ext e7
    have z7 := e7.size
    simp [O7.hc]
    refine ef_append1b rfl (of.ext' e7) V7 (by omega) (by omega) ?_
    intro f' h8 of8 nf8 m8 hs8
    have z8 := m8.size
    have O8 := m8.blk O7 (fun hj => by have := ff hj.1; have := hj.2; omega)
    have ff8 : f'.nl = false → h5.size ≤ f'.b := fun hn => by
      rcases hs8 with ⟨k1, k2⟩ | ⟨k1, _⟩
      · rw [k1]; exact ff (by rw [← k2]; exact hn)
      · omega
    have ot8 := (ot.ext' e7).mod m8 (fun hn hj => dft hj.1 hn hj.2.symm)
    have d8 : f'.nl = false → t.nl = false → f'.b ≠ t.b := fun hn ht => by
      rcases hs8 with ⟨k1, k2⟩ | ⟨k1, _⟩
      · rw [k1]; exact dft (by rw [← k2]; exact hn) ht
      · have := ot.lt ht; omega
    simp
    refine stB O8 (o := 1) (by simp) ?_
    intro h9 O9 m9
    have O9 : Blk h9 op #[q.v, f'.v, t.v, gt.v, .slice none 0 0, .int .i64 0] := O9
    have z9 := m9.size
    have of9 := of8.mod m9 (fun hn hj => by have := ff8 hn; omega)
    have ot9 := ot8.mod m9 (fun hn hj => by have := ft hn; omega)
    have m59 : Mod (fun j => j = op) h5 h9 := ((m6.trans (e7.mono fun _ _ h => h.elim)).then m8 (fun j hj hb => by have := ff hb.1; have := hb.2; omega)).trans m9
    have x9 : Ext h h9 := Mod.ext x5 m59 (fun j hj => by omega)
    simp [O9.hc]
    refine gto_spec O.GO.R.G.To O.GO.R.G.arc (g.ext x9) ?_
    rw [hti]
    simp [O9.hc]
    refine ef_bslice1_bx rfl ?_
    intro b10 h10 g10 V10 e10
    have O10 := O9.ext e10
    have z10 := e10.size
    simp [O10.hc]
    refine ef_append1b rfl (ot9.ext' e10) V10 (by omega) (by omega) ?_
    intro t' h11 ot11 nt11 m11 hs11
    have z11 := m11.size
    have O11 := m11.blk O10 (fun hj => by have := ft hj.1; have := hj.2; omega)
    have ft11 : t'.nl = false → h5.size ≤ t'.b := fun hn => by
      rcases hs11 with ⟨k1, k2⟩ | ⟨k1, _⟩
      · rw [k1]; exact ft (by rw [← k2]; exact hn)
      · omega
    have of11 := (of9.ext' e10).mod m11 (fun hn hj => d8 hn hj.1 hj.2)
    have d11 : f'.nl = false → t'.nl = false → f'.b ≠ t'.b := fun hn ht => by
      rcases hs11 with ⟨k1, k2⟩ | ⟨k1, _⟩
      · rw [k1]; exact d8 hn (by rw [← k2]; exact ht)
      · have := of9.lt hn; omega
    simp
    refine stB O11 (o := 2) (by simp) ?_
    intro h12 O12 m12
    have O12 : Blk h12 op #[q.v, f'.v, t'.v, gt.v, .slice none 0 0, .int .i64 0] := O12
    simp [w1]
    have m512 : Mod (fun j => j = op) h5 h12 := ((m59.trans (e10.mono fun _ _ h => h.elim)).then m11 (fun j hj hb => by have := ft hb.1; have := hb.2; omega)).trans m12
    refine ⟨⟨i + 1, f', t', _, _, _, _, _, _, _, _, _, _, _, _, _, _, _, rfl, by omega, O12, ?_, ?_, ff8, ft11, d11, m512⟩, by simp [argI]; omega⟩
    · have := of11.mod m12 (fun hn hj => by have := ff8 hn; omega)
      rw [htk]
      simpa [ints64] using this
    · have := ot11.mod m12 (fun hn hj => by have := ft11 hn; omega)
      rw [htk]
      simpa [ints64] using this
  have c' : ¬ (i : Int) < N.as.length := by omega
  obtain rfl : i = N.as.length := by omega
  rw [List.take_length] at of ot
  simp [c', O6.hc]
  have rf6 := of.row64
  have rt6 := ot.row64
  have lff : f.nl = false → f.b < h6.size := fun hn => of.lt hn
  have ltt : t.nl = false → t.b < h6.size := fun hn => ot.lt hn
  refine wp_loop' (NwI2 p B op (.agg #[s.v]) q f t gt h6) (fun e _ => gt.n - argI e 18) ⟨0, Sl.nil, [], 0, _, _, _, _, _, _, _, _, _, _, _, _, _, _, rfl, by omega, O6, Own.nil, rfl, fun h => (by cases h), Mod.refl _⟩ ?_
  rintro e h7 ⟨k, st, cs, z, w7, w8, w9, w10, w11, w12, w13, w14, w15, w19, w20, w21, w22, w23, rfl, hk, O7, os, lcs, fs, m7⟩
  have z7 := m7.size
  have lst := os.1
  simp at lst
  have e57 : Mod (fun j => j = op) h5 h7 := m6.trans m7
  have x47 : Ext h4 h7 := Mod.ext e5 e57 (fun j hj => by omega)
  have x7 : Ext h h7 := x4.trans x47
  by_cases d : k < gt.n
  rotate_left
  · have d' : ¬ (k : Int) < gt.n := by omega
    simp [d']
    refine hr h7 op x7 (by omega) (fun y my => ⟨q, f, t, gt, st, z, my.blk O7 (by omega), ?_, ?_, ?_, ?_⟩)
    · exact fq y (((e4.trans x47).mono fun _ _ h => h.elim).trans (my.mono fun j _ hj => by omega))
    · exact fg y ((x47.mono fun _ _ h => h.elim).trans (my.mono fun j _ hj => by omega))
    · exact ((of.mod m7 (fun hn hj => by have := ff hn; omega)).mod my (fun hn hj => by have := ff hn; omega)).row64
    · exact ((ot.mod m7 (fun hn hj => by have := ft hn; omega)).mod my (fun hn hj => by have := ft hn; omega)).row64
  have d' : (k : Int) < gt.n := by omega
  have w1 : IntKind.i64.wrap ((k : Int) + 1) = (k : Int) + 1 := i64_wrap (by omega)
  obtain ⟨u, hu, cu⟩ := gates_at (fg h4 (Mod.refl _)) d
  have hu7 := hu h7 x47
  have okg := (fg h4 (Mod.refl _)).ok
  obtain ⟨_, _, gb, _⟩ := cells_row pk (i := k) (by omega)
  have ncu := cu.len
  obtain ⟨n, hn⟩ : ∃ n, gateN L k = n := ⟨_, rfl⟩
  rw [hn] at cu ncu gb
  simp [d', sem_idxa okg, hu7, ncu]
  refine ef_make64 (n := n) (by omega) rfl ?_
  intro W h8 g8 oW e8 lW
  have O8 := O7.ext e8
  have z8 := e8.size
  have lO7 := O7.lt
  simp [ncu]
  refine wp_loop' (NwI3 p B op W n k (.agg #[s.v]) q f t gt st u h8) (fun e _ => n - argI e 22) ⟨0, _, z, _, _, _, _, _, _, _, _, _, rfl, by omega, O8, oW, Mod.refl _⟩ ?_
  clear O8 oW
  rintro e h9 ⟨j, vs, z, y7, y10, y11, y12, y13, y14, y15, y19, y23, rfl, hj, O9, oW, m9⟩
  have z9 := m9.size
  have lW9 := oW.1
  simp at lW9
  have x49 : Ext h4 h9 := Mod.ext (x47.trans e8) m9 (fun j hj => by omega)
  by_cases b : j < n
  · have b' : (j : Int) < n := by omega
    have w2 : IntKind.i64.wrap ((j : Int) + 1) = (j : Int) + 1 := i64_wrap (by omega)
    obtain ⟨a1, a2, ha, _, _⟩ := cells_at cu b
    obtain ⟨_, _, ra⟩ := ha h9 x49
    have bu : (j : Int) < u.n := by omega
    simp [b', sem_idxa cu.ok, bu, ra]
    refine new_store (vs := #[a1.v, a2.v]) rfl rfl (by simp) ?_
    intro D hDp gD bDp eDp stD
    simp
    refine stD _ ?_
    intro h10 D10 e10
    clear stD bDp eDp
    have z10 := e10.size
    have O10 := O9.ext e10
    have oW10 := oW.ext' e10
    have hiF := sem_idxa (Y := Y) (h := h10) (s := Sl.at W n n) (sz := 1) (k := .i64) (i := (j : Int)) oW10.ok (by omega) (by simp; omega)
    simp at hiF
    simp [O10.hc, hiF]
    have st11 := fun K v => stN (v := v) (K := K) oW10 (k := j) (by omega)
    simp only [Sl.at_b, Sl.at_o, Nat.zero_add] at st11
    refine st11 _ _ ?_
    intro h11 oW11 m11
    have z11 := m11.size
    have O11 := m11.blk O10 (by omega)
    have D11 := m11.blk D10 (by omega)
    simp [O11.hc, D11.hc]
    refine stB O11 (o := 5) (by simp) ?_
    intro h12 O12 m12
    simp at O12
    simp [w2]
    refine ⟨⟨j + 1, _, _, _, _, _, _, _, _, _, _, _, rfl, by omega, O12, oW11.mod m12 (fun _ hb => by simp at hb; omega), ?_⟩, by simp [argI]; omega⟩
    exact ((m9.trans (e10.mono fun _ _ h => h.elim)).trans (m11.mono fun _ _ h => .inr h)).trans (m12.mono fun _ _ h => .inl h)
  have b' : ¬ (j : Int) < n := by omega
  simp [b', O9.hc]
  refine ef_bslice1_bx rfl ?_
  intro V h10 gV V10 e10
  have z10 := e10.size
  have O10 := O9.ext e10
  have m79 : Mod (fun k => k = op ∨ k = W) h7 h9 := (e8.mono fun _ _ h => h.elim).trans m9
  have os9 := os.mod m79 (fun hn hb => by have := fs hn; have := os.lt hn; omega)
  simp [O10.hc]
  refine ef_append1b rfl (os9.ext' e10) V10 (by omega) (by omega) ?_
  intro st' h11 os11 ns11 m11 hs11
  have z11 := m11.size
  have O11 := m11.blk O10 (fun hb => by have := fs hb.1; have := hb.2; omega)
  have fs11 : st'.nl = false → h6.size ≤ st'.b := fun hn => by
    rcases hs11 with ⟨k1, k2⟩ | ⟨k1, _⟩
    · rw [k1]; exact fs (by rw [← k2]; exact hn)
    · omega
  simp
  refine stB O11 (o := 4) (by simp) ?_
  intro h12 O12 m12
  simp at O12
  simp [w1]
  refine ⟨⟨k + 1, st', _, z, _, _, _, _, _, _, _, _, _, _, _, _, _, _, rfl, by omega, O12, os11.mod m12 (fun hn hb => by have := fs11 hn; omega), by simp [lcs], fs11, ?_⟩, by simp [argI]; omega⟩
  have m712 : Mod (fun k => (k = op ∨ k = W) ∨ (st.nl = false ∧ k = st.b)) h7 h12 :=
    (((m79.mono fun _ _ h => .inl h).trans (e10.mono fun _ _ h => h.elim)).trans (m11.mono fun _ _ h => .inr h)).trans (m12.mono fun _ _ h => .inl (.inl h))
  refine m7.then m712 (fun j hj hb => ?_)
  rcases hb with (hb | hb) | hb
  · exact hb
  · omega
  · have := fs hb.1; have := hb.2; omega
end
end Go.Rm

/- What stands over a net: asked; batches: what they touch. -/
set_option linter.unusedSimpArgs false
set_option linter.unusedVariables false
namespace Go.Rm
section
variable {Y : Sys} {h h' : Heap}
theorem overlevels_spec (O : OverFns Y) {op : Nat} {N : NetD} {L : List (List Int)} (v : OverH h op N L) {R : Value → Heap → Prop} (hr : R (.int .i64 L.length) h) : CallP Y F.over_Over_Levels [.pointer (some ⟨op, 0, none⟩)] h R := by
  obtain ⟨q, f, t, g, st, z, B, rq, rg, _, _⟩ := v
  refine .of_has O.Levels rfl ?_
  have lq := rq.len
  rw [lq] at hr
  simp [S_over_Over_Levels, FnS.wp, B.hc]
  exact hr
theorem overcells_spec (O : OverFns Y) {op : Nat} {N : NetD} {L : List (List Int)} (v : OverH h op N L) {i : Nat} (hi : i < L.length) (hb : L.length ≤ 1000) {R : Value → Heap → Prop} (hr : R (.int .i64 (gateN L i)) h) : CallP Y F.over_Over_Cells [.pointer (some ⟨op, 0, none⟩), .int .i64 ((i : Int) + 1)] h R := by
  obtain ⟨q, f, t, g, st, z, B, rq, rg, _, _⟩ := v
  refine .of_has O.Cells rfl ?_
  have lg := rg.len
  obtain ⟨u, hu, cu⟩ := gates_at rg (i := i) (by omega)
  have hu := hu h (Mod.refl _)
  have w1 : IntKind.i64.wrap ((i : Int) + 1 - 1) = (i : Int) := by rw [i64_wrap (by omega)]; omega
  have w0 : IntKind.i64.wrap (i : Int) = (i : Int) := i64_wrap (by omega)
  have c1 : ¬ (i : Int) + 1 < 1 := by omega
  have c2 : ¬ (g.n : Int) < (i : Int) + 1 := by omega
  have c3 : (i : Int) < g.n := by omega
  have ncu := cu.len
  simp [S_over_Over_Cells, FnS.wp, B.hc, c1, c2, w1, w0, sem_idxa rg.ok, c3, hu, ncu]
  exact hr
theorem overpart_spec (O : OverFns Y) {op : Nat} {N : NetD} {L : List (List Int)} (v : OverH h op N L) (hbig : L.length ≤ 1000) (hrow : ∀ i, i < L.length → (nthL L i).length ≤ 1000000) {R : Value → Heap → Prop}
    (hr : ∀ h' s', Ext h h' → (∀ k, Mod (fun j => j < h.size) h' k → RowL k s' L) → R (ptV s') h') : CallP Y F.over_Over_Part [.pointer (some ⟨op, 0, none⟩)] h R := by
  obtain ⟨q, f, t, g, st, z, B, rq, rg, _, _⟩ := v
  refine .of_has O.Part rfl ?_
  simp [S_over_Over_Part, FnS.wp]
  refine ef_new_box ?_
  intro C h1 g1 C1 e1
  have C1 : Blk h1 C #[.slice none 0 0] := C1
  have z1 := e1.size
  have B1 := B.ext e1
  have hrd : rd h1 op 0 1 = some [q.v] := rd_of (l := [q.v]) fun i v hi => by
    rw [B1.hc]
    match i, hi with
    | 0, hi => simpa using hi
    | i + 1, hi => simp at hi
  simp [hrd]
  rw [show (Value.agg #[q.v]) = ptV q from rfl]
  refine twin_spec O.T (rq.ext e1) (by rw [← rq.len]; exact hbig) hrow ?_
  intro h2 s' e2 fs
  have z2 := e2.size
  have lC := C1.lt
  simp [ptV]
  refine ef_store_box (C1.ext e2) rfl rfl (by simp) ?_
  intro h3 C3 m3
  simp
  refine resP_x rfl C3 rfl ?_
  exact hr h3 s' (Mod.ext (e1.trans e2) m3 (fun j hj => by omega)) (fun k mk => fs k ((m3.mono fun j _ hj => by omega).trans (mk.mono fun j _ hj => by omega)))
structure Over17 (Y : Sys) : Prop where
  O : OverFns Y
  Made : Y.Has F.rlaw17_Made S_rlaw17_Made
  MF : MadeFns Y
  CT : CellTo Y
theorem made17_spec (X : Over17 Y) {sv sa st s : Sl} {N : NetD} {L : List (List Int)} (r : NetH h sv sa st N) (q : RowL h s L) (hf : fewD N = true) (ok : NetOK N) (pk : PartOK N.vs.length L) {R : Value → Heap → Prop}
    (hr : ∀ h' op, Ext h h' → h.size ≤ op → (∀ k, Mod (fun j => j < h.size) h' k → OverH k op N L) → R (.pointer (some ⟨op, 0, none⟩)) h') : CallP Y F.rlaw17_Made [netV sv sa st, ptV s] h R := by
  refine .of_has X.Made rfl ?_
  have lL := q.len
  have bL := pk.bL
  have bN := pk.bn
  have hrow : ∀ i, i < L.length → (nthL L i).length ≤ 1000000 := fun i hi => by
    have := (cells_row pk hi).1
    omega
  simp [S_rlaw17_Made, FnS.wp, netV, ptV]
  refine ef_new_box ?_
  intro A h1 g1 A1 e1
  simp
  refine ef_new_box ?_
  intro B h2 g2 B2 e2
  have x2 := e1.trans e2
  have z1 := e1.size
  have z2 := e2.size
  simp [rd_blk (A1.ext e2)]
  rw [show (Value.agg #[sv.v, sa.v, st.v]) = netV sv sa st from rfl]
  refine made_spec X.MF (r.ext x2) hf ok ?_
  intro h3 p S e3 g hS
  have x3 := x2.trans e3
  have B3 := B2.ext e3
  simp [rd_blk B3]
  rw [show (Value.agg #[s.v]) = ptV s from rfl]
  refine cellto_spec X.CT (q.ext x3) (by omega) hrow ?_
  intro h4 s' e4 q4 _
  have x4 := x3.trans e4
  have z3 := e3.size
  have z4 := e4.size
  simp
  refine overnew_spec X.O (g.ext e4) q4 ok pk ?_
  intro h5 op e5 gop fo
  simp
  exact hr h5 op (x4.trans e5) (by omega) (fun k mk => fo k (mk.mono fun j _ hj => by omega))
end
end Go.Rm

/- Batches: what they touch, by the program. -/
set_option linter.unusedSimpArgs false
set_option linter.unusedVariables false
namespace Go.Rm
def tRow (L : List (List Int)) (T : Nat → Nat → Bool) (i : Nat) : List Bool := (List.range (gateN L i)).map (T i)
/-- rows of marks, one of each level -/
structure ToldH (lo up : Nat) (h : Heap) (tb : Nat) (L : List (List Int)) (bt : Nat → Nat) (T : Nat → Nat → Bool) : Prop where
  own : Own h 1 (Sl.at tb L.length L.length) (rowQ L.length fun i => Sl.at (bt i) (gateN L i) (gateN L i))
  row : ∀ i, i < L.length → Own h 1 (Sl.at (bt i) (gateN L i) (gateN L i)) (boolsM (tRow L T i))
  ft : lo ≤ tb ∧ tb < up
  fr : ∀ i, i < L.length → lo ≤ bt i ∧ bt i < up ∧ bt i ≠ tb
  dj : ∀ i j, i < L.length → j < L.length → i ≠ j → bt i ≠ bt j
/-- of which cells of each level both vertices are -/
def markT (L : List (List Int)) (T : Nat → Nat → Bool) (a b : Nat) : Nat → Nat → Bool := fun i c => T i c || decide (nthI (nthL L i) a = (c : Int) ∧ nthI (nthL L i) b = (c : Int))
section
variable {Y : Sys} {h h' : Heap} {lo up tb : Nat} {L : List (List Int)} {bt : Nat → Nat} {T : Nat → Nat → Bool}
theorem ToldH.mod {S : Nat → Prop} (t : ToldH lo up h tb L bt T) (m : Mod S h h') (hs : ∀ j, S j → j < lo ∨ up ≤ j) : ToldH lo up h' tb L bt T :=
  { t with
    own := t.own.mod m (fun _ hb => by have := hs _ hb; have := t.ft; simp at *; omega)
    row := fun i hi => (t.row i hi).mod m (fun _ hb => by have := hs _ hb; have := (t.fr i hi); simp at *; omega) }
theorem ToldH.ext (t : ToldH lo up h tb L bt T) (m : Ext h h') : ToldH lo up h' tb L bt T := t.mod m fun _ h => h.elim
theorem ToldH.congr {T' : Nat → Nat → Bool} (t : ToldH lo up h tb L bt T) (e : ∀ i c, i < L.length → c < gateN L i → T i c = T' i c) : ToldH lo up h tb L bt T' :=
  { t with
    row := fun i hi => by
      have : tRow L T' i = tRow L T i := by
        apply List.map_congr_left
        intro c hc
        exact (e i c hi (by simpa using hc)).symm
      rw [this]
      exact t.row i hi }
theorem ToldH.set {K : Value → Heap → Prop} (t : ToldH lo up h tb L bt T) {i c : Nat} (hi : i < L.length) (hc : c < gateN L i)
    (hk : ∀ h', ToldH lo up h' tb L bt (fun j d => T j d || decide (j = i ∧ d = c)) → Mod (fun j => lo ≤ j ∧ j < up) h h' → K undef h') : StoreP h (bt i) c (.bool true) K := by
  refine stAt (t.row i hi) (k := c) (by rw [boolsM_len]; simpa [tRow] using hc) ?_
  intro h' o m
  refine hk h' ?_ (m.mono fun j _ hj => by have := t.fr i hi; omega)
  refine ⟨t.own.mod m (fun _ hb => by have := (t.fr i hi).2.2; simp at hb; omega), fun j hj => ?_, t.ft, t.fr, t.dj⟩
  by_cases e : j = i
  · subst e
    have : (boolsM (tRow L T j)).set c (.bool true) = boolsM (tRow L (fun j' d => T j' d || decide (j' = j ∧ d = c)) j) := by
      apply List.ext_getElem
      · simp [boolsM, tRow]
      · intro k h1 h2
        simp [boolsM, tRow] at h1
        rw [List.getElem_set]
        simp only [boolsM, tRow, List.getElem_map, List.getElem_range, true_and]
        by_cases q : c = k
        · subst q; simp
        · have : ¬ k = c := fun e => q e.symm
          simp [q, this]
    rw [this] at o
    exact o
  · have := (t.row j hj).mod m (fun _ hb => t.dj j i hj hi e hb)
    have e2 : tRow L (fun j' d => T j' d || decide (j' = i ∧ d = c)) j = tRow L T j := by
      apply List.map_congr_left
      intro d _
      simp [e]
    rw [e2]
    exact this
structure TouchFns (Y : Sys) : Prop where
  A : BatchAp Y
  O : OverFns Y
  Touched : Y.Has F.batch_Touched S_batch_Touched
  mark : Y.Has F.batch_mark S_batch_mark
  Wt : Y.Has F.graph_Graph_Weight S_graph_Graph_Weight
def MkI (tb : Nat) (u : Sl) (L : List (List Int)) (bt : Nat → Nat) (T : Nat → Nat → Bool) (a b lo up : Nat) (h0 : Heap) (e : List Value) (h' : Heap) : Prop :=
  ∃ (i : Nat) (v4 v5 v6 v10 v11 v12 : Value), e = [.slice (some ⟨tb, 0, none⟩) L.length L.length, u.v, .int .i64 a, .int .i64 b, v4, v5, v6, u.v, .int .i64 u.n, .int .i64 i, v10, v11, v12] ∧ i ≤ L.length ∧ ToldH lo up h' tb L bt (fun j c => T j c || decide (j < i ∧ nthI (nthL L j) a = (c : Int) ∧ nthI (nthL L j) b = (c : Int))) ∧ Mod (fun j => lo ≤ j ∧ j < up) h0 h'
theorem mark_spec (X : TouchFns Y) {u : Sl} {N : NetD} {a b : Nat} (td : ToldH lo up h tb L bt T) (ru : RowL h u L) (pk : PartOK N.vs.length L) (ha : a < N.vs.length) (hb : b < N.vs.length)
    (keep : ∀ h', Mod (fun j => lo ≤ j ∧ j < up) h h' → RowL h' u L) {R : Value → Heap → Prop}
    (hr : ∀ h', Mod (fun j => lo ≤ j ∧ j < up) h h' → ToldH lo up h' tb L bt (markT L T a b) → R (.tuple #[]) h') :
    CallP Y F.batch_mark [.slice (some ⟨tb, 0, none⟩) L.length L.length, u.v, .int .i64 a, .int .i64 b] h R := by
  have lL := ru.len
  have bL := pk.bL
  have bn := pk.bn
  refine .of_has X.mark rfl ?_
  simp [S_batch_mark, FnS.wp]
  refine wp_loop' (MkI tb u L bt T a b lo up h) (fun e _ => L.length - argI e 9) ⟨0, _, _, _, _, _, _, rfl, by omega, td.congr (fun i c _ _ => by simp), Mod.refl _⟩ ?_
  rintro e h1 ⟨i, v4, v5, v6, v10, v11, v12, rfl, hi, t1, m1⟩
  by_cases c : i < L.length
  rotate_left
  · have c' : ¬ (i : Int) < u.n := by omega
    obtain rfl : i = L.length := by omega
    simp [c']
    refine hr h1 m1 (t1.congr (fun j d hj hd => ?_))
    simp [markT, hj]
  have c' : (i : Int) < u.n := by omega
  have c2 : (i : Int) < L.length := by omega
  have c3 : ¬ (L.length : Int) ≤ i := by omega
  have w1 : IntKind.i64.wrap ((i : Int) + 1) = (i : Int) + 1 := i64_wrap (by omega)
  have ru1 := keep h1 m1
  obtain ⟨w, hw, rw'⟩ := ru1.val i c
  have lw := rw'.len
  obtain ⟨y1, y2, _, _⟩ := lvE_zero (pk.lv i c)
  have ya := y2 a ha
  have yb := y2 b hb
  have a1 : (a : Int) < w.n := by omega
  have a2 : ¬ (w.n : Int) ≤ a := by omega
  have b1 : (b : Int) < w.n := by omega
  have b2 : ¬ (w.n : Int) ≤ b := by omega
  have va := rw'.val a (by omega)
  have vb := rw'.val b (by omega)
  obtain ⟨x, hx⟩ : ∃ x : Nat, nthI (nthL L i) a = x := ⟨(nthI (nthL L i) a).toNat, by omega⟩
  rw [hx] at va
  have a3 : ¬ L.length ≤ i := by omega
  have a4 : ¬ w.n ≤ a := by omega
  have b4 : ¬ w.n ≤ b := by omega
  simp [c', sem_idxa ru1.ok, hw, c2, c3, a1, a2, b1, b2, a3, a4, b4, sem_idxa rw'.ok, va, vb]
  by_cases k : nthI (nthL L i) b = x
  rotate_left
  · have k' : ¬ (x : Int) = nthI (nthL L i) b := fun e => k e.symm
    simp [k, k', w1]
    refine ⟨⟨i + 1, _, _, _, _, _, _, rfl, by omega, t1.congr (fun j d hj hd => ?_), m1⟩, by simp [argI]; omega⟩
    by_cases e : j < i
    · simp [e, show j < i + 1 by omega]
    · by_cases e2 : j = i
      · subst e2
        have : ¬ ((x : Int) = (d : Int) ∧ nthI (nthL L j) b = (d : Int)) := fun q => k (by omega)
        simp [hx, this]
      · have : ¬ j < i + 1 := by omega
        simp [e, this]
  have xg : x < gateN L i := by
    obtain ⟨_, _, _, hv⟩ := cells_row pk c
    obtain ⟨z, hz, hz'⟩ := hv a ha
    omega
  have ct := t1.own.cell (rowQ_get c)
  simp at ct
  have hiT := sem_idxF (Y := Y) (h := h1) (b := tb) (sz := 1) (show L.length ≤ 9223372036854775807 by omega) c (Nat.le_refl _)
  have gb := (cells_row pk c).2.2.1
  have hiG := sem_idxF (Y := Y) (h := h1) (b := bt i) (sz := 1) (show gateN L i ≤ 9223372036854775807 by omega) xg (Nat.le_refl _)
  simp at hiT hiG
  have xg' : (x : Int) < gateN L i := by omega
  simp [k, hiT, ct, xg, xg', hiG]
  refine t1.set c xg ?_
  intro h2 t2 m2
  simp [w1]
  refine ⟨⟨i + 1, _, _, _, _, _, _, rfl, by omega, t2.congr (fun j d hj hd => ?_), m1.trans m2⟩, by simp [argI]; omega⟩
  by_cases e : j < i
  · simp [e, show j < i + 1 by omega, show ¬ j = i by omega]
  · by_cases e2 : j = i
    · subst e2
      simp only [Nat.lt_irrefl, false_and, decide_false, Bool.or_false, true_and, Nat.lt_succ_self, hx, k]
      congr 1
      rw [decide_eq_decide]
      omega
    · have : ¬ j < i + 1 := by omega
      simp [e, e2, this]
end
end Go.Rm

/- Batches: what they touch, by the program: all of it. -/
set_option linter.unusedSimpArgs false
set_option linter.unusedVariables false
namespace Go.Rm
/-- does a change touch a cell? -/
def touch1 (N : NetD) (L : List (List Int)) (c : Act5) (i k : Nat) : Bool :=
  if c.kd = 1 then decide ((nthT N.as c.a.toNat).c ≠ c.w) && decide (nthI (nthL L i) (nthT N.as c.a.toNat).a.toNat = (k : Int) ∧ nthI (nthL L i) (nthT N.as c.a.toNat).b.toNat = (k : Int))
  else decide (atV (nthB N.ts c.a.toNat).i (nthB N.ts c.a.toNat).o (nthB N.ts c.a.toNat).cs c.i c.o ≠ c.w) && (List.range N.vs.length).any fun v => decide ((nthT N.vs v).c = c.a) && decide (nthI (nthL L i) v = (k : Int))
def touchL (N : NetD) (L : List (List Int)) (l : List Act5) (i k : Nat) : Bool := l.any fun c => touch1 N L c i k
theorem touchL_snoc {N : NetD} {L : List (List Int)} {l : List Act5} {i j k : Nat} (hi : i < l.length) : touchL N L (l.take (i + 1)) j k = (touchL N L (l.take i) j k || touch1 N L (nthA l i) j k) := by
  unfold touchL
  rw [List.take_succ_eq_append_getElem hi, List.any_append]
  simp [nthA, hi]
def nilRow (L : List (List Int)) (bt : Nat → Nat) (i : Nat) : List Value := (List.range L.length).map fun k => if k < i then (Sl.at (bt k) (gateN L k) (gateN L k)).v else .slice none 0 0
/-- the first rows of marks are made -/
structure ToldP (lo : Nat) (h : Heap) (tb : Nat) (L : List (List Int)) (bt : Nat → Nat) (i : Nat) : Prop where
  own : Own h 1 (Sl.at tb L.length L.length) (nilRow L bt i)
  row : ∀ k, k < i → Own h 1 (Sl.at (bt k) (gateN L k) (gateN L k)) (boolsM (tRow L (fun _ _ => false) k))
  ft : lo ≤ tb ∧ tb < h.size
  fr : ∀ k, k < i → lo ≤ bt k ∧ bt k < h.size ∧ bt k ≠ tb
  dj : ∀ j k, j < i → k < i → j ≠ k → bt j ≠ bt k
theorem no_marks {L : List (List Int)} {i : Nat} : boolsM (tRow L (fun _ _ => false) i) = List.replicate (gateN L i) (.bool false) := by
  apply List.ext_getElem
  · simp [boolsM, tRow]
  · intro k h1 h2
    simp [boolsM, tRow]
section
variable {Y : Sys} {h h' : Heap} {lo up tb : Nat} {L : List (List Int)} {bt : Nat → Nat}
theorem OverH.ext {op : Nat} {N : NetD} (v : OverH h op N L) (e : Ext h h') : OverH h' op N L := by
  obtain ⟨q, f, t, g, st, z, B, rq, rg, rf, rt⟩ := v
  exact ⟨q, f, t, g, st, z, B.ext e, rq.ext e, rg.ext e, rf.ext e, rt.ext e⟩
theorem ToldP.step {i b : Nat} {h1 : Heap} {K : Value → Heap → Prop} (t : ToldP lo h tb L bt i) (hi : i < L.length) (gb : h.size ≤ b) (o : Own h1 1 (Sl.at b (gateN L i) (gateN L i)) (List.replicate (gateN L i) (.bool false))) (e : Ext h h1) (lb : b < h1.size) (hlo : lo ≤ h.size)
    (hk : ∀ h2, ToldP lo h2 tb L (fun k => if k = i then b else bt k) (i + 1) → Mod (fun j => j = tb) h1 h2 → K undef h2) : StoreP h1 tb i (Sl.at b (gateN L i) (gateN L i)).v K := by
  have ot := t.own.mod e (fun _ h => h)
  refine stAt ot (k := i) (by simpa [nilRow] using hi) ?_
  intro h2 o2 m2
  have z1 := e.size
  have z2 := m2.size
  have ft := t.ft
  refine hk h2 ⟨?_, fun k hk => ?_, by omega, fun k hk => ?_, fun j k hj hk hne => ?_⟩ m2
  · have : (nilRow L bt i).set i (Sl.at b (gateN L i) (gateN L i)).v = nilRow L (fun k => if k = i then b else bt k) (i + 1) := by
      apply List.ext_getElem
      · simp [nilRow]
      · intro k h1 h2
        simp [nilRow] at h1
        rw [List.getElem_set]
        by_cases q : i = k
        · subst q; simp [nilRow]
        · simp only [nilRow, List.getElem_map, List.getElem_range, q, if_false]
          have q' : ¬ k = i := fun e => q e.symm
          by_cases r : k < i
          · simp [r, q', show k < i + 1 by omega]
          · simp [r, show ¬ k < i + 1 by omega]
    rw [this] at o2
    exact o2
  · by_cases q : k = i
    · subst q
      simp only [if_true]
      rw [no_marks]
      exact o.mod m2 (fun _ hb => by simp at hb; omega)
    · simp only [q, if_false]
      have fk := t.fr k (by omega)
      exact ((t.row k (by omega)).mod e (fun _ h => h)).mod m2 (fun _ hb => by simp at hb; omega)
  · by_cases q : k = i
    · subst q
      simp only [if_true]
      omega
    · simp only [q, if_false]
      have fk := t.fr k (by omega)
      omega
  · by_cases q : j = i
    · by_cases r : k = i
      · omega
      · have fk := t.fr k (by omega)
        simp only [q, r, if_true, if_false]
        omega
    · have fj := t.fr j (by omega)
      by_cases r : k = i
      · simp only [q, r, if_true, if_false]
        omega
      · simp only [q, r, if_false]
        exact t.dj j k (by omega) (by omega) hne
theorem ToldP.told (t : ToldP lo h tb L bt L.length) : ToldH lo h.size h tb L bt (fun _ _ => false) := by
  refine ⟨?_, t.row, t.ft, t.fr, t.dj⟩
  have : nilRow L bt L.length = rowQ L.length fun i => Sl.at (bt i) (gateN L i) (gateN L i) := by
    apply List.map_congr_left
    intro k hk
    have hk : k < L.length := by simpa using hk
    simp [hk]
  rw [← this]
  exact t.own
def TcI1 (p op tb : Nat) (s : Sl) (L : List (List Int)) (h0 : Heap) (e : List Value) (h' : Heap) : Prop :=
  ∃ (i : Nat) (bt : Nat → Nat) (v3 v4 v5 v7 v8 v9 v10 v11 v12 v13 v16 v17 v18 v19 v20 v21 v22 v23 v24 v25 v26 v27 v28 v29 v30 v31 : Value), e = [.pointer (some ⟨p, 0, none⟩), .pointer (some ⟨op, 0, none⟩), s.v, v3, v4, v5, .slice (some ⟨tb, 0, none⟩) L.length L.length, v7, v8, v9, v10, v11, v12, v13, .int .i64 L.length, .int .i64 i, v16, v17, v18, v19, v20, v21, v22, v23, v24, v25, v26, v27, v28, v29, v30, v31] ∧ i ≤ L.length ∧ ToldP h0.size h' tb L bt i ∧ Ext h0 h'
def TcI2 (p op tb B : Nat) (v8 : Value) (s : Sl) (N : NetD) (L : List (List Int)) (l : List Act5) (bt : Nat → Nat) (lo up : Nat) (h0 : Heap) (e : List Value) (h' : Heap) : Prop :=
  ∃ (i : Nat) (v3 v4 v5 v7 v10 v11 v12 v13 v14 v15 v16 v17 v21 v22 v23 v24 v25 v26 v27 v28 v29 v30 v31 : Value), e = [.pointer (some ⟨p, 0, none⟩), .pointer (some ⟨op, 0, none⟩), s.v, v3, v4, v5, .slice (some ⟨tb, 0, none⟩) L.length L.length, v7, v8, .pointer (some ⟨B, 0, none⟩), v10, v11, v12, v13, v14, v15, v16, v17, s.v, .int .i64 s.n, .int .i64 i, v21, v22, v23, v24, v25, v26, v27, v28, v29, v30, v31] ∧ i ≤ l.length ∧ ToldH lo up h' tb L bt (touchL N L (l.take i)) ∧ Mod (fun j => lo ≤ j ∧ j < up) h0 h'
def TcI3 (p op tb B C i : Nat) (v8 : Value) (s sv : Sl) (N : NetD) (L : List (List Int)) (a : Int) (T : Nat → Nat → Bool) (bt : Nat → Nat) (lo up : Nat) (h0 : Heap) (e : List Value) (h' : Heap) : Prop :=
  ∃ (v : Nat) (v3 v4 v5 v7 v11 v12 v13 v14 v15 v16 v17 v21 v22 v23 v24 v25 v26 v30 v31 : Value), e = [.pointer (some ⟨p, 0, none⟩), .pointer (some ⟨op, 0, none⟩), s.v, v3, v4, v5, .slice (some ⟨tb, 0, none⟩) L.length L.length, v7, v8, .pointer (some ⟨B, 0, none⟩), .pointer (some ⟨C, 0, none⟩), v11, v12, v13, v14, v15, v16, v17, s.v, .int .i64 s.n, .int .i64 i, v21, v22, v23, v24, v25, v26, sv.v, .int .i64 sv.n, .int .i64 v, v30, v31] ∧ v ≤ N.vs.length ∧ ToldH lo up h' tb L bt (fun j k => T j k || (List.range v).any fun x => decide ((nthT N.vs x).c = a) && decide (nthI (nthL L j) x = (k : Int))) ∧ Mod (fun j => lo ≤ j ∧ j < up) h0 h'
set_option maxHeartbeats 2000000 in
theorem touched_spec (X : TouchFns Y) {p op : Nat} {N M : NetD} {S : Nat → Prop} {s : Sl} {l : List Act5} (g : GraphA h p N S) (ok : NetOK N) (ov : OverH h op M L) (pk : PartOK N.vs.length L) (q : Row5 h s l) {R : Value → Heap → Prop}
    (hbad : ∀ h' v, (batchW N l).2 ≠ 0 → Ext h h' → FErr Y h.size h' (batchW N l) v → R (.tuple #[.slice none 0 0, v]) h')
    (hr : ∀ h' up tb bt, (batchW N l).2 = 0 → Ext h h' → ToldH h.size up h' tb L bt (touchL N L l) → R (.tuple #[.slice (some ⟨tb, 0, none⟩) L.length L.length, .nilIface]) h') :
    CallP Y F.batch_Touched [.pointer (some ⟨p, 0, none⟩), .pointer (some ⟨op, 0, none⟩), s.v] h R := by
  have ll := q.len
  have bL := pk.bL
  have bn := pk.bn
  have D := X.A
  refine .of_has X.Touched rfl ?_
  simp [S_batch_Touched, FnS.wp]
  refine bcheck_spec D.C g ok q ?_
  intro h1 v e1 fv
  by_cases c0 : (batchW N l).2 = 0
  rotate_left
  · obtain ⟨t, u, hv⟩ := fv.here.iface c0
    subst hv
    simp
    exact hbad h1 _ c0 e1 fv
  have hv := Err.nil fv.here c0
  subst hv
  obtain ⟨hl, hb⟩ := batch_ok c0
  have z1 := e1.size
  simp
  refine overlevels_spec X.O (ov.ext e1) ?_
  simp
  refine ef_make1s (n := L.length) (by omega) rfl ?_
  intro tb h2 gtb o2 e2 ltb
  have z2 := e2.size
  have x2 := e1.trans e2
  simp
  refine wp_loop' (TcI1 p op tb s L h1) (fun e _ => L.length - argI e 15) ⟨0, fun _ => 0, _, _, _, _, _, _, _, _, _, _, _, _, _, _, _, _, _, _, _, _, _, _, _, _, _, _, rfl, by omega, ⟨?_, fun k hk => by omega, by omega, fun k hk => by omega, fun j k hj => by omega⟩, e2⟩ ?_
  · have : nilRow L (fun _ => 0) 0 = List.replicate L.length (.slice none 0 0) := by
      apply List.ext_getElem
      · simp [nilRow]
      · intro k h1 h2
        simp [nilRow]
    rw [this]
    exact o2
  rintro e h3 ⟨i, bt, v3, v4, v5, v7, v8, v9, v10, v11, v12, v13, v16, v17, v18, v19, v20, v21, v22, v23, v24, v25, v26, v27, v28, v29, v30, v31, rfl, hi, tp, e3⟩
  have z3 := e3.size
  have x3 := e1.trans e3
  by_cases c : i < L.length
  · have c' : (i : Int) < L.length := by omega
    have w1 : IntKind.i64.wrap ((i : Int) + 1) = (i : Int) + 1 := i64_wrap (by omega)
    simp [c, c', w1]
    refine overcells_spec X.O (ov.ext x3) c (by omega) ?_
    have gb := (cells_row pk c).2.2.1
    simp
    refine ef_makeM (n := gateN L i) (by omega) rfl ?_
    intro b h4 gb4 o4 e4 lb4
    have hiT := sem_idxF (Y := Y) (h := h4) (b := tb) (sz := 1) (show L.length ≤ 9223372036854775807 by omega) c (Nat.le_refl _)
    simp at hiT
    simp [hiT]
    rw [show Value.slice (some ⟨b, 0, none⟩) (gateN L i) (gateN L i) = (Sl.at b (gateN L i) (gateN L i)).v from rfl]
    have ftt := tp.ft
    refine tp.step c gb4 o4 e4 lb4 (by omega) ?_
    intro h5 tp5 m5
    simp [w1]
    refine ⟨⟨i + 1, _, _, _, _, _, _, _, _, _, _, _, _, _, _, _, _, _, _, _, _, _, _, _, _, _, _, _, rfl, by omega, tp5, ?_⟩, by simp [argI]; omega⟩
    exact Mod.ext (e3.trans e4) m5 (fun j hj => by omega)
  have c' : ¬ (i : Int) < L.length := by omega
  obtain rfl : i = L.length := by omega
  have td := tp.told
  have ftt := tp.ft
  simp [c']
  by_cases c1 : s.n = 0
  · have hl0 : l = [] := List.eq_nil_of_length_eq_zero (by omega)
    subst hl0
    have hs0 : ((s.n : Int) = 0) = True := by simp [c1]
    simp [c1]
    refine hr h3 h3.size tb bt c0 x3 ?_
    exact ⟨td.own, td.row, ⟨by omega, by omega⟩, fun i hi => by have := td.fr i hi; omega, td.dj⟩
  simp [c1]
  have hrow : ∀ i, i < L.length → (nthL L i).length ≤ 1000000 := fun i hi => by
    have := (cells_row pk hi).1
    omega
  refine overpart_spec X.O (ov.ext x3) (by omega) hrow ?_
  intro h4 u e4 fu
  have z4 := e4.size
  have x4 := x3.trans e4
  simp [ptV]
  refine gnet_spec D.C.Net D.C.Cl (g.ext x4) ok.small ?_
  intro h5 s1 s2 s3 e5 fn
  have z5 := e5.size
  have x5 := x4.trans e5
  simp [netV]
  refine new_store (vs := #[s1.v, s2.v, s3.v]) rfl rfl (by simp) ?_
  intro B hBp gB bBp eBp stB
  simp
  refine stB _ ?_
  intro h6 B6 e6
  clear stB bBp eBp
  have z6 := e6.size
  have x6 := x5.trans e6
  simp
  refine wp_loop' (TcI2 p op tb B u.v s N L l bt h1.size h3.size h6) (fun e _ => l.length - argI e 20) ⟨0, _, _, _, _, _, _, _, _, _, _, _, _, _, _, _, _, _, _, _, _, _, _, _, rfl, by omega, ?_, Mod.refl _⟩ ?_
  · refine ToldH.congr (((td.ext e4).ext e5).ext e6) ?_
    intro i c _ _
    simp [touchL]
  rintro e h7 ⟨i, v3, v4, v5, v7, v10, v11, v12, v13, v14, v15, v16, v17, v21, v22, v23, v24, v25, v26, v27, v28, v29, v30, v31, rfl, hi, t7, m7⟩
  have z7 := m7.size
  have x7 : Ext h h7 := Mod.ext x6 m7 (fun j hj => by omega)
  by_cases c : i < l.length
  rotate_left
  · have c' : ¬ (i : Int) < s.n := by omega
    obtain rfl : i = l.length := by omega
    rw [List.take_length] at t7
    simp [c']
    refine hr h7 h3.size tb bt c0 x7 ?_
    exact ⟨t7.own, t7.row, ⟨by omega, t7.ft.2⟩, fun i hi => by have := t7.fr i hi; omega, t7.dj⟩
  have c' : (i : Int) < s.n := by omega
  have c'' : i < s.n := by omega
  have w1 : IntKind.i64.wrap ((i : Int) + 1) = (i : Int) + 1 := i64_wrap (by omega)
  have rc := (q.ext' x7).val i c
  have one : oneC N (nthA l i) = 0 := bad_one (hb i c)
  have tsn : ∀ j k, touchL N L (l.take (i + 1)) j k = (touchL N L (l.take i) j k || touch1 N L (nthA l i) j k) := fun j k => touchL_snoc c
  generalize nthA l i = cc at rc one tsn
  obtain ⟨kd, a, ii, o, w⟩ := cc
  simp only at rc
  simp [c', c'', sem_idxa q.ok, rc]
  refine new_store (vs := #[.int .i64 kd, .int .i64 a, .int .i64 ii, .int .i64 o, .int .i64 w]) rfl rfl (by simp) ?_
  intro C hCp gC bCp eCp stC
  simp
  refine stC _ ?_
  intro h8 C8 e8
  clear stC bCp eCp
  have z8 := e8.size
  have x8 := x7.trans e8
  have t8 := t7.ext e8
  have m8 : Mod (fun j => h1.size ≤ j ∧ j < h3.size) h6 h8 := m7.trans (e8.mono fun _ _ h => h.elim)
  have keep : ∀ k, Mod (fun j => h1.size ≤ j ∧ j < h3.size) h8 k → RowL k u L := fun k mk => by
    refine fu k ?_
    refine (((e5.trans e6).mono fun _ _ h => h.elim).trans (m8.mono fun j _ hj => ?_)).trans (mk.mono fun j _ hj => ?_) <;> omega
  simp [C8.hc]
  by_cases k1 : kd = 1
  · obtain ⟨a', ea, la', hw, w0, sn⟩ := ch_set one k1
    simp only at ea
    have va : vtxB N.as.length a = true := by simp [vtxB]; omega
    have hwv : weightV N a = (nthT N.as a').c := by unfold weightV; rw [if_pos va, ea]; rfl
    have hfv : fromV N a = (nthT N.as a').a := by unfold fromV; rw [if_pos va, ea]; rfl
    have htv : toV N a = (nthT N.as a').b := by unfold toV; rw [if_pos va, ea]; rfl
    simp [k1, C8.hc]
    refine gweight_spec X.Wt D.GS.arc (g.ext x8) ?_
    rw [hwv]
    simp [C8.hc]
    have h1t : ∀ j k, touch1 N L ⟨kd, a, ii, o, w⟩ j k = (decide ((nthT N.as a').c ≠ w) && decide (nthI (nthL L j) (nthT N.as a').a.toNat = (k : Int) ∧ nthI (nthL L j) (nthT N.as a').b.toNat = (k : Int))) := fun j k => by
      simp [touch1, k1, ea]
    by_cases k2 : (nthT N.as a').c = w
    · simp [k2, w1]
      refine ⟨⟨i + 1, _, _, _, _, _, _, _, _, _, _, _, _, _, _, _, _, _, _, _, _, _, _, _, rfl, by omega, t8.congr (fun j d hj hd => ?_), m8⟩, by simp [argI]; omega⟩
      rw [tsn, h1t]
      simp [k2]
    simp [k2, C8.hc]
    refine gfrom_spec X.O.From D.GS.arc (g.ext x8) ?_
    rw [hfv]
    simp [C8.hc]
    refine gto_spec X.O.GO.R.G.To D.GS.arc (g.ext x8) ?_
    rw [htv]
    obtain ⟨y1, y2⟩ := ok.arcs a' la'
    simp only [vtxB, decide_eq_true_eq] at y1 y2
    obtain ⟨x, hx⟩ : ∃ x : Nat, (nthT N.as a').a = x := ⟨(nthT N.as a').a.toNat, by omega⟩
    obtain ⟨y, hy⟩ : ∃ y : Nat, (nthT N.as a').b = y := ⟨(nthT N.as a').b.toNat, by omega⟩
    simp [hx, hy]
    refine mark_spec X t8 (keep h8 (Mod.refl _)) pk (by omega) (by omega) keep ?_
    intro h9 m9 t9
    simp [w1]
    refine ⟨⟨i + 1, _, _, _, _, _, _, _, _, _, _, _, _, _, _, _, _, _, _, _, _, _, _, _, rfl, by omega, t9.congr (fun j d hj hd => ?_), m8.trans m9⟩, by simp [argI]; omega⟩
    rw [tsn, h1t]
    simp [markT, k2, hx, hy]
  · obtain ⟨k2, t, A, B', o', ea, ei, eo, lt, ho, l1, l2, lp, hw, w0, sn⟩ := ch_bend ok one k1
    simp only at k2 ea ei eo
    have B8 := m8.blk B6 (by omega)
    have nh : ∀ k, Mod (fun j => h1.size ≤ j ∧ j < h3.size) h8 k → NetH k s1 s2 s3 N := fun k mk => by
      refine fn k ?_
      refine ((e6.mono fun _ _ h => h.elim).trans (m8.mono fun j _ hj => ?_)).trans (mk.mono fun j _ hj => ?_) <;> omega
    have n8 := nh h8 (Mod.refl _)
    have lt2 := n8.rt.len
    obtain ⟨uu, rdt, _, ru⟩ := n8.rt.rd (i := t) lt
    have la : (t : Int) < s3.n := by omega
    have la2 : t < s3.n := by omega
    simp [k1, k2, C8.hc, B8.hc, ea, sem_idxa n8.rt.ok, la, la2, rdt]
    rw [show (Value.agg #[.int .i64 (nthB N.ts t).i, .int .i64 (nthB N.ts t).o, uu.v]) = tabV (nthB N.ts t).i (nthB N.ts t).o uu from rfl]
    refine at_spec D.T ru ?_
    intro h9 e9
    have x9 := x8.trans e9
    have z9 := e9.size
    have t9 := t8.ext e9
    have m9 : Mod (fun j => h1.size ≤ j ∧ j < h3.size) h8 h9 := e9.mono fun _ _ h => h.elim
    have C9 := C8.ext e9
    have B9 := B8.ext e9
    have h1t : ∀ j k, touch1 N L ⟨kd, a, ii, o, w⟩ j k = (decide (atV (nthB N.ts t).i (nthB N.ts t).o (nthB N.ts t).cs ii o ≠ w) && (List.range N.vs.length).any fun v => decide ((nthT N.vs v).c = (t : Int)) && decide (nthI (nthL L j) v = (k : Int))) := fun j k => by
      simp [touch1, k1, ea]
    simp [C9.hc]
    by_cases k3 : atV (nthB N.ts t).i (nthB N.ts t).o (nthB N.ts t).cs ii o = w
    · simp [k3, w1]
      refine ⟨⟨i + 1, _, _, _, _, _, _, _, _, _, _, _, _, _, _, _, _, _, _, _, _, _, _, _, rfl, by omega, t9.congr (fun j d hj hd => ?_), m8.trans m9⟩, by simp [argI]; omega⟩
      rw [tsn, h1t]
      simp [k3]
    simp [k3, B9.hc]
    refine wp_loop' (TcI3 p op tb B C i u.v s s1 N L t (touchL N L (l.take i)) bt h1.size h3.size h9) (fun e _ => N.vs.length - argI e 29) ⟨0, _, _, _, _, _, _, _, _, _, _, _, _, _, _, _, _, _, _, _, rfl, by omega, t9.congr (fun j d hj hd => by simp), Mod.refl _⟩ ?_
    rintro e h10 ⟨v, v3, v4, v5, v7, v11, v12, v13, v14, v15, v16, v17, v21, v22, v23, v24, v25, v26, v30, v31, rfl, hv, t10, m10⟩
    have n10 := nh h10 (m9.trans m10)
    have lv := n10.rv.len
    by_cases d : v < N.vs.length
    rotate_left
    · have d' : ¬ (v : Int) < s1.n := by omega
      obtain rfl : v = N.vs.length := by omega
      simp [d', w1]
      refine ⟨⟨i + 1, _, _, _, _, _, _, _, _, _, _, _, _, _, _, _, _, _, _, _, _, _, _, _, rfl, by omega, t10.congr (fun j d hj hd => ?_), (m8.trans m9).trans m10⟩, by simp [argI]; omega⟩
      rw [tsn, h1t]
      simp [k3]
    have d' : (v : Int) < s1.n := by omega
    have d'' : v < s1.n := by omega
    have wv : IntKind.i64.wrap ((v : Int) + 1) = (v : Int) + 1 := i64_wrap (by omega)
    simp [d', d'', sem_idxa n10.rv.ok, n10.rv.rd d]
    refine new_store (vs := #[.int .i64 (nthT N.vs v).a, .int .i64 (nthT N.vs v).b, .int .i64 (nthT N.vs v).c]) rfl rfl (by simp) ?_
    intro V hVp gV bVp eVp stV
    simp
    refine stV _ ?_
    intro h11 V11 e11
    clear stV bVp eVp
    have z10 := m10.size
    have C11 := (m10.blk C9 (by omega)).ext e11
    have t11 := t10.ext e11
    have m11 : Mod (fun j => h1.size ≤ j ∧ j < h3.size) h9 h11 := m10.trans (e11.mono fun _ _ h => h.elim)
    simp [V11.hc, C11.hc]
    by_cases k4 : (nthT N.vs v).c = (t : Int)
    rotate_left
    · simp [k4, wv, ea]
      refine ⟨⟨v + 1, _, _, _, _, _, _, _, _, _, _, _, _, _, _, _, _, _, _, _, rfl, by omega, t11.congr (fun j d hj hd => ?_), m11⟩, by simp [argI]; omega⟩
      simp [List.range_succ, k4]
    simp [k4, ea]
    refine mark_spec X t11 (keep h11 (m9.trans m11)) pk d d (fun k mk => keep k ((m9.trans m11).trans mk)) ?_
    intro h12 m12 t12
    simp [wv]
    refine ⟨⟨v + 1, _, _, _, _, _, _, _, _, _, _, _, _, _, _, _, _, _, _, _, rfl, by omega, t12.congr (fun j d hj hd => ?_), m11.trans m12⟩, by simp [argI]; omega⟩
    simp [List.range_succ, k4, markT, Bool.or_assoc]
end
end Go.Rm

/- Batches: what they touch, by the document: arcs within a cell, its vertices. -/
set_option linter.unusedSimpArgs false
set_option linter.unusedVariables false
namespace Go.Rm
/-- the numbers up to n that a test picks -/
def pickL (p : Nat → Bool) (n : Nat) : List Int := ((List.range n).filter p).map fun (i : Nat) => (i : Int)
theorem pickL_snoc {p : Nat → Bool} {n : Nat} : pickL p (n + 1) = pickL p n ++ if p n = true then [(n : Int)] else [] := by
  unfold pickL
  rw [List.range_succ, List.filter_append, List.map_append]
  congr 1
  by_cases h : p n = true
  · simp [h]
  · simp [h]
theorem pickL_len {p : Nat → Bool} {n : Nat} : (pickL p n).length ≤ n := by
  unfold pickL
  rw [List.length_map]
  exact Nat.le_trans (List.length_filter_le ..) (by simp)
theorem pickL_at {p : Nat → Bool} {n j : Nat} (hj : j < (pickL p n).length) : ∃ a : Nat, nthI (pickL p n) j = a ∧ a < n ∧ p a = true := by
  have hm : nthI (pickL p n) j ∈ pickL p n := by rw [show nthI (pickL p n) j = (pickL p n)[j] by simp [nthI, hj]]; exact List.getElem_mem hj
  unfold pickL at hm
  rw [List.mem_map] at hm
  obtain ⟨a, ha, e⟩ := hm
  rw [List.mem_filter] at ha
  exact ⟨a, by unfold pickL; exact e.symm, by simpa using ha.1, ha.2⟩
theorem pickL_any {p : Nat → Bool} {n : Nat} {q : Nat → Bool} : (pickL p n).any (fun a => q a.toNat) = (List.range n).any fun a => p a && q a := by
  unfold pickL
  rw [List.any_map, List.any_filter]
  rfl
def insQ (N : NetD) (row : List Int) (c : Nat) (a : Nat) : Bool := decide (nthI row (nthT N.as a).a.toNat = (c : Int)) && decide (nthI row (nthT N.as a).b.toNat = (c : Int))
def memQ (row : List Int) (c : Nat) (v : Nat) : Bool := decide (nthI row v = (c : Int))
structure RefIn (Y : Sys) : Prop where
  P : Part16 Y
  Inside : Y.Has F.rref16_Inside S_rref16_Inside
  Members : Y.Has F.rref16_Members S_rref16_Members
section
variable {Y : Sys} {h h' : Heap}
/-- a number is put behind a row of one's own -/
theorem ef_appI {K : Value → Heap → Prop} {h0 h : Heap} {s : Sl} {l : List Int} {a : Int} {b : Nat} {z : Value} (o : Own h 1 s (ints64 l)) (hl : l.length ≤ 1000000) (f : s.nl = false → h0.size ≤ s.b) (e : Ext h0 h) (V : Blk h b #[.int .i64 a])
    (hk : ∀ (s' : Sl) (h' : Heap), Own h' 1 s' (ints64 (l ++ [a])) → (s'.nl = false → h0.size ≤ s'.b) → Ext h0 h' → K s'.v h') :
    Ef.wp h K (.append 1 8 #[z]) [s.v, .slice (some ⟨b, 0, none⟩) 1 1] := by
  have tn := o.1
  simp at tn
  refine ef_append1b (bytes := 8) rfl o V (by omega) (by omega) ?_
  intro t6 h6 o6 hn6 m6 ht6
  have z := e.size
  refine hk t6 h6 (by simpa [ints64] using o6) (fun hn => ?_) (Mod.ext e m6 (fun j hj => by have := f hj.1; have := hj.2; omega))
  rcases ht6 with ⟨k1, k2⟩ | ⟨k1, k2⟩
  · rw [k1]; exact f (by rw [← k2]; exact hn)
  · omega
def InI (B C i c : Nat) (N : NetD) (row : List Int) (h0 : Heap) (e : List Value) (h' : Heap) : Prop :=
  ∃ (j : Nat) (s : Sl) (v0 v1 v6 v9 v10 : Value), e = [v0, v1, .int .i64 ((i : Int) + 1), .int .i64 c, .pointer (some ⟨B, 0, none⟩), .pointer (some ⟨C, 0, none⟩), v6, s.v, .int .i64 j, v9, v10] ∧ j ≤ N.as.length ∧ Own h' 1 s (ints64 (pickL (insQ N row c) j)) ∧ (s.nl = false → h0.size ≤ s.b) ∧ Ext h0 h'
theorem dinside_spec (D : RefIn Y) {N : NetD} {L : List (List Int)} {sv sa st s : Sl} (rn : NetH h sv sa st N) (r : RowL h s L) (cc : CellsOf N L) {i c : Nat} (hi : i < L.length) {R : Value → Heap → Prop}
    (hr : ∀ h' t, Ext h h' → Own h' 1 t (ints64 (pickL (insQ N (nthL L i) c) N.as.length)) → (t.nl = false → h.size ≤ t.b) → R t.v h') : CallP Y F.rref16_Inside [netV sv sa st, ptV s, .int .i64 ((i : Int) + 1), .int .i64 c] h R := by
  refine .of_has D.Inside rfl ?_
  have bA := cc.ok.ba
  have bL := cc.bL
  have lL := r.len
  have la := rn.ra.len
  have hln : (nthL L i).length = N.vs.length := cc.ln i hi
  simp [S_rref16_Inside, FnS.wp, ptV, netV]
  refine ef_new_box ?_
  intro B h1 g1 B1 e1
  simp
  refine ef_new_box ?_
  intro C h2 g2 C2 e2
  have x2 := e1.trans e2
  have B2 := B1.ext e2
  simp
  refine wp_loop' (InI B C i c N (nthL L i) h2) (fun e _ => N.as.length - argI e 8) ⟨0, Sl.nil, _, _, _, _, _, rfl, by omega, by simpa [pickL, ints64] using Own.nil, fun h => (by cases h), Mod.refl _⟩ ?_
  rintro e h3 ⟨j, t, v0, v1, v6, v9, v10, rfl, hj, o3, ht3, e3⟩
  have x3 := x2.trans e3
  have B3 := B2.ext e3
  have C3 := C2.ext e3
  by_cases d : j < sa.n
  rotate_left
  · have d' : ¬ (j : Int) < sa.n := by omega
    obtain rfl : j = N.as.length := by omega
    simp [B3.hc, d']
    exact hr _ t x3 o3 (fun hn => by have := ht3 hn; have := x2.size; omega)
  have d' : (j : Int) < sa.n := by omega
  have dj : j < N.as.length := by omega
  simp [B3.hc, d', rd_blk C3]
  refine has_spec D.P lL ?_
  intro h4 e4
  have x4 := x3.trans e4
  have B4 := B3.ext e4
  have C4 := C3.ext e4
  have hh : hasB L ((i : Int) + 1) = true := by simp [hasB]; omega
  have w0 : IntKind.i64.wrap ((i : Int) + 1 - 1) = (i : Int) := by rw [i64_wrap (by omega)]; omega
  have w0' : IntKind.i64.wrap (i : Int) = (i : Int) := i64_wrap (by omega)
  obtain ⟨u, hu, ru⟩ := r.at (i := i) (by omega)
  have lu := ru.len
  generalize nthL L i = row at *
  obtain ⟨x, y, hx, hy, hxn, hyn⟩ := cc.arc dj
  have w1 : IntKind.i64.wrap ((j : Int) + 1) = (j : Int) + 1 := i64_wrap (by omega)
  have hs := pickL_snoc (p := insQ N row c) (n := j)
  have v0 := (rn.ext x4).ra.v0 j dj
  have v1 := (rn.ext x4).ra.v1 j dj
  rw [hx] at v0
  rw [hy] at v1
  have ru4 := ru.ext x4
  have xu : x < u.n := by omega
  have yu : y < u.n := by omega
  have is : i < s.n := by omega
  have hu4 := hu h4 x4
  have hce : insQ N row c j = (decide (nthI row x = (c : Int)) && decide (nthI row y = (c : Int))) := by unfold insQ; rw [hx, hy]; rfl
  by_cases q1 : nthI row x = (c : Int)
  rotate_left
  · have hf : insQ N row c j = false := by rw [hce]; simp [q1]
    rw [hf] at hs
    simp at hs
    simp [hh, C4.hc, B4.hc, w0, w0', sem_idxa r.ok, is, hu4, sem_idxa rn.ra.ok, d, v0, v1, sem_idxa ru.ok, xu, yu, ru4.at xu, ru4.at yu, q1, w1]
    refine ⟨⟨j + 1, t, _, _, _, _, _, rfl, by omega, by rw [hs]; exact o3.ext' e4, ht3, e3.trans e4⟩, by simp [argI]; omega⟩
  by_cases q2 : nthI row y = (c : Int)
  rotate_left
  · have hf : insQ N row c j = false := by rw [hce]; simp [q2]
    rw [hf] at hs
    simp at hs
    simp [hh, C4.hc, B4.hc, w0, w0', sem_idxa r.ok, is, hu4, sem_idxa rn.ra.ok, d, v0, v1, sem_idxa ru.ok, xu, yu, ru4.at xu, ru4.at yu, q1, q2, w1]
    refine ⟨⟨j + 1, t, _, _, _, _, _, rfl, by omega, by rw [hs]; exact o3.ext' e4, ht3, e3.trans e4⟩, by simp [argI]; omega⟩
  have hf : insQ N row c j = true := by rw [hce]; simp [q1, q2]
  rw [hf] at hs
  simp at hs
  simp [hh, C4.hc, B4.hc, w0, w0', sem_idxa r.ok, is, hu4, sem_idxa rn.ra.ok, d, v0, v1, sem_idxa ru.ok, xu, yu, ru4.at xu, ru4.at yu, q1, q2]
  refine ef_bslice1_bx rfl ?_
  intro b5 h5 g5 V5 e5
  simp
  have pl := pickL_len (p := insQ N row c) (n := j)
  refine ef_appI (h0 := h2) ((o3.ext' e4).ext' e5) (by omega) ht3 ((e3.trans e4).trans e5) V5 ?_
  intro t6 h6 o6 ht6 e6
  simp [w1]
  refine ⟨⟨j + 1, t6, _, _, _, _, _, rfl, by omega, by rw [hs]; exact o6, ht6, e6⟩, by simp [argI]; omega⟩
def MemI (B i c n : Nat) (row : List Int) (h0 : Heap) (e : List Value) (h' : Heap) : Prop :=
  ∃ (j : Nat) (s : Sl) (v0 v4 v7 v8 v9 : Value), e = [v0, .int .i64 ((i : Int) + 1), .int .i64 c, .pointer (some ⟨B, 0, none⟩), v4, s.v, .int .i64 j, v7, v8, v9] ∧ j ≤ n ∧ Own h' 1 s (ints64 (pickL (memQ row c) j)) ∧ (s.nl = false → h0.size ≤ s.b) ∧ Ext h0 h'
theorem members_spec (D : RefIn Y) {n : Nat} {L : List (List Int)} {s : Sl} (r : RowL h s L) (pk : PartOK n L) {i c : Nat} (hi : i < L.length) {R : Value → Heap → Prop}
    (hr : ∀ h' t, Ext h h' → Own h' 1 t (ints64 (pickL (memQ (nthL L i) c) n)) → (t.nl = false → h.size ≤ t.b) → R t.v h') : CallP Y F.rref16_Members [ptV s, .int .i64 ((i : Int) + 1), .int .i64 c] h R := by
  refine .of_has D.Members rfl ?_
  have bL := pk.bL
  have bn := pk.bn
  have lL := r.len
  have hln : (nthL L i).length = n := (lvE_zero (pk.lv i hi)).1
  simp [S_rref16_Members, FnS.wp, ptV]
  refine ef_new_box ?_
  intro B h1 g1 B1 e1
  simp [rd_blk B1]
  refine has_spec D.P lL ?_
  intro h2 e2
  have x2 := e1.trans e2
  have B2 := B1.ext e2
  have hh : hasB L ((i : Int) + 1) = true := by simp [hasB]; omega
  have w0 : IntKind.i64.wrap ((i : Int) + 1 - 1) = (i : Int) := by rw [i64_wrap (by omega)]; omega
  have w0' : IntKind.i64.wrap (i : Int) = (i : Int) := i64_wrap (by omega)
  obtain ⟨u, hu, ru⟩ := r.at (i := i) (by omega)
  have lu := ru.len
  generalize nthL L i = row at *
  have is : i < s.n := by omega
  simp [hh]
  refine wp_loop' (MemI B i c n row h2) (fun e _ => n - argI e 6) ⟨0, Sl.nil, _, _, _, _, _, rfl, by omega, by simpa [pickL, ints64] using Own.nil, fun h => (by cases h), Mod.refl _⟩ ?_
  rintro e h3 ⟨j, t, v0, v4, v7, v8, v9, rfl, hj, o3, ht3, e3⟩
  have x3 := x2.trans e3
  have B3 := B2.ext e3
  have hu3 := hu h3 x3
  by_cases d : j < u.n
  rotate_left
  · have d' : ¬ (j : Int) < u.n := by omega
    obtain rfl : j = n := by omega
    simp [B3.hc, w0, w0', sem_idxa r.ok, is, hu3, d']
    exact hr _ t x3 o3 (fun hn => by have := ht3 hn; have := x2.size; omega)
  have d' : (j : Int) < u.n := by omega
  have w1 : IntKind.i64.wrap ((j : Int) + 1) = (j : Int) + 1 := i64_wrap (by omega)
  have hs := pickL_snoc (p := memQ row c) (n := j)
  have ru3 := ru.ext x3
  by_cases q1 : nthI row j = (c : Int)
  rotate_left
  · have hf : memQ row c j = false := by simp [memQ, q1]
    rw [hf] at hs
    simp at hs
    simp [B3.hc, w0, w0', sem_idxa r.ok, is, hu3, d, d', sem_idxa ru.ok, ru3.at d, q1, w1]
    refine ⟨⟨j + 1, t, _, _, _, _, _, rfl, by omega, by rw [hs]; exact o3, ht3, e3⟩, by simp [argI]; omega⟩
  have hf : memQ row c j = true := by simp [memQ, q1]
  rw [hf] at hs
  simp at hs
  simp [B3.hc, w0, w0', sem_idxa r.ok, is, hu3, d, d', sem_idxa ru.ok, ru3.at d, q1]
  refine ef_bslice1_bx rfl ?_
  intro b5 h5 g5 V5 e5
  simp
  have pl := pickL_len (p := memQ row c) (n := j)
  refine ef_appI (h0 := h2) (o3.ext' e5) (by omega) ht3 (e3.trans e5) V5 ?_
  intro t6 h6 o6 ht6 e6
  simp [w1]
  refine ⟨⟨j + 1, t6, _, _, _, _, _, rfl, by omega, by rw [hs]; exact o6, ht6, e6⟩, by simp [argI]; omega⟩
end
end Go.Rm

/- Batches: what they touch, in plain Lean. -/
set_option linter.unusedSimpArgs false
set_option linter.unusedVariables false
namespace Go.Rm
def sameTB (a b : Tab) : Bool := decide (a.i = b.i ∧ a.o = b.o ∧ a.cs = b.cs)
/-- does a cell of two nets cost otherwise? -/
def touchD (N M : NetD) (L : List (List Int)) (i k : Nat) : Bool :=
  ((List.range N.as.length).any fun a => insQ N (nthL L i) k a && decide ((nthT N.as a).c ≠ (nthT M.as a).c)) ||
  (List.range N.vs.length).any fun v => memQ (nthL L i) k v && !sameTB (nthB N.ts (nthT N.vs v).c.toNat) (nthB M.ts (nthT N.vs v).c.toNat)
theorem bad_key {N : NetD} {l : List Act5} {i : Nat} (h : badC N l i = 0) {j : Nat} (hj : j < i) : sameKey (nthA l j) (nthA l i) = false := by
  unfold badC at h
  split at h
  · rename_i q; exact absurd h q
  · split at h
    · cases h
    · rename_i q
      cases k : sameKey (nthA l j) (nthA l i) with
      | false => rfl
      | true => exact absurd (twice_iff.2 ⟨j, hj, k⟩) q
theorem one_set {N : NetD} {c : Act5} (h : oneC N c = 0) (hk : c.kd = 1) : c.i = 0 ∧ c.o = 0 := by
  unfold oneC at h
  rw [if_pos hk] at h
  split at h
  · cases h
  · omega
theorem apply_arc {N : NetD} (ok : NetOK N) {l : List Act5} (hb : ∀ i, i < l.length → badC N l i = 0) {a : Nat} (ha : a < N.as.length) : ∀ i, i ≤ l.length →
    ((∀ j, j < i → (nthA l j).kd = 1 → (nthA l j).a ≠ a) → (nthT (applyN N (l.take i)).as a).c = (nthT N.as a).c) ∧
    (∀ j, j < i → (nthA l j).kd = 1 → (nthA l j).a = a → (nthT (applyN N (l.take i)).as a).c = (nthA l j).w) := by
  intro i
  induction i with
  | zero => intro _; exact ⟨fun _ => rfl, fun j hj => by omega⟩
  | succ i ih =>
    intro hi
    obtain ⟨p1, p2⟩ := ih (by omega)
    have hlt : i < l.length := by omega
    have lok := applyN_ok (l := l.take i) ok
    have hall : ∀ x, x ∈ l.take i → oneC N x = 0 := fun x hx => by
      obtain ⟨k, hk, e⟩ := List.mem_iff_getElem.1 (List.mem_of_mem_take hx)
      have := bad_one (hb k hk)
      rwa [show nthA l k = x by simp [nthA, hk, e]] at this
    have dm := apply_dim (l := l.take i) ok hall
    have one0 := bad_one (hb i hlt)
    have one : oneC (applyN N (l.take i)) (nthA l i) = 0 := by rw [dm.one]; exact one0
    rw [applyN_snoc hlt]
    generalize hK : applyN N (l.take i) = K at *
    unfold chN
    by_cases hk : (nthA l i).kd = 1
    · rw [if_pos hk]
      obtain ⟨a', ea, la', _, _, e⟩ := ch_set one hk
      rw [e]
      simp only
      rw [nthT_set la']
      by_cases q : a = a'
      · rw [if_pos q]
        refine ⟨fun hn => absurd (by rw [ea, q]) (hn i (by omega) hk), fun j hj hkj haj => ?_⟩
        by_cases r : j = i
        · rw [r]
        · exfalso
          have ks := bad_key (hb i hlt) (j := j) (by omega)
          have o1 := one_set (bad_one (hb j (by omega))) hkj
          have o2 := one_set one0 hk
          simp only [sameKey, decide_eq_false_iff_not] at ks
          exact ks ⟨by omega, by omega, by omega, by omega⟩
      · rw [if_neg q]
        refine ⟨fun hn => p1 (fun j hj => hn j (by omega)), fun j hj hkj haj => ?_⟩
        by_cases r : j = i
        · subst r; exact absurd (by omega) q
        · exact p2 j (by omega) hkj haj
    · rw [if_neg hk]
      obtain ⟨_, t, A, B, o, _, _, _, lt, _, _, _, _, _, _, e⟩ := ch_bend lok one hk
      rw [e]
      refine ⟨fun hn => p1 (fun j hj => hn j (by omega)), fun j hj hkj haj => ?_⟩
      by_cases r : j = i
      · subst r; exact absurd hkj hk
      · exact p2 j (by omega) hkj haj
/-- where a turn's cost stands -/
def posC (N : NetD) (c : Act5) : Nat := (c.i * (nthB N.ts c.a.toNat).o + c.o).toNat
theorem bend_pos {N : NetD} (ok : NetOK N) {c : Act5} (h : oneC N c = 0) (hk : c.kd ≠ 1) : ∃ t A B o : Nat, c.a = t ∧ c.i = A ∧ c.o = B ∧ t < N.ts.length ∧ (nthB N.ts t).o = o ∧ B < o ∧ posC N c = A * o + B ∧ A * o + B < (nthB N.ts t).cs.length ∧ weightB c.w = true ∧
    bendN N c.a c.i c.o c.w = { N with ts := N.ts.set t ⟨(nthB N.ts t).i, (nthB N.ts t).o, (nthB N.ts t).cs.set (A * o + B) c.w⟩ } ∧ atV (nthB N.ts t).i (nthB N.ts t).o (nthB N.ts t).cs c.i c.o = nthI (nthB N.ts t).cs (A * o + B) := by
  obtain ⟨k2, t, A, B, o, ea, ei, eo, lt, ho, l1, l2, lp, hw, w0, sn⟩ := ch_bend ok h hk
  have hp : ((A : Int) * (o : Int) + (B : Int)).toNat = A * o + B := by
    have : (A : Int) * (o : Int) + (B : Int) = ((A * o + B : Nat) : Int) := by simp
    rw [this]; rfl
  refine ⟨t, A, B, o, ea, ei, eo, lt, ho, l2, ?_, lp, hw, sn, ?_⟩
  · unfold posC
    rw [ea, ei, eo, Int.toNat_natCast, ho]
    exact hp
  · have hT := ok.tab t lt
    rw [ei, eo]
    unfold atV
    have s0 : (sidesW (nthB N.ts t).i (nthB N.ts t).o).2 = 0 := by
      unfold tabWr tabW at hT
      split at hT
      · rename_i q; exact absurd hT q
      · rename_i q; exact Decidable.byContradiction q
    rw [if_neg (by rw [ho]; rintro (q | q | q | q | q) <;> first | omega | (rw [ho] at s0; exact q s0))]
    rw [ho, if_pos (by have : (A : Int) * (o : Int) + (B : Int) = ((A * o + B : Nat) : Int) := by simp
                       rw [this]; omega)]
    rw [hp]
theorem grid_inj {A B A' B' o : Nat} (h : A * o + B = A' * o + B') (hB : B < o) (hB' : B' < o) : A = A' ∧ B = B' := by
  rcases Nat.lt_trichotomy A A' with q | q | q
  · have := Nat.mul_le_mul_right o (show A + 1 ≤ A' by omega)
    rw [Nat.add_mul] at this
    omega
  · subst q; omega
  · have := Nat.mul_le_mul_right o (show A' + 1 ≤ A by omega)
    rw [Nat.add_mul] at this
    omega
theorem set_same {l : List Int} {i : Nat} {x : Int} (h : nthI l i = x) : l.set i x = l := by
  apply List.ext_getElem
  · simp
  · intro k h1 h2
    rw [List.getElem_set]
    split
    · rename_i e; subst e; rw [← h]; simp [nthI, h2]
    · rfl
theorem apply_tab {N : NetD} (ok : NetOK N) {l : List Act5} (hb : ∀ i, i < l.length → badC N l i = 0) {t : Nat} (ht : t < N.ts.length) : ∀ i, i ≤ l.length →
    ((∀ j, j < i → (nthA l j).kd ≠ 1 → (nthA l j).a = t → nthI (nthB N.ts t).cs (posC N (nthA l j)) = (nthA l j).w) → nthB (applyN N (l.take i)).ts t = nthB N.ts t) ∧
    (∀ j, j < i → (nthA l j).kd ≠ 1 → (nthA l j).a = t → nthI (nthB (applyN N (l.take i)).ts t).cs (posC N (nthA l j)) = (nthA l j).w) ∧ (nthB (applyN N (l.take i)).ts t).cs.length = (nthB N.ts t).cs.length := by
  intro i
  induction i with
  | zero => intro _; exact ⟨fun _ => rfl, fun j hj => by omega, rfl⟩
  | succ i ih =>
    intro hi
    obtain ⟨p1, p2, p3⟩ := ih (by omega)
    have hlt : i < l.length := by omega
    have lok := applyN_ok (l := l.take i) ok
    have hall : ∀ x, x ∈ l.take i → oneC N x = 0 := fun x hx => by
      obtain ⟨k, hk, e⟩ := List.mem_iff_getElem.1 (List.mem_of_mem_take hx)
      have := bad_one (hb k hk)
      rwa [show nthA l k = x by simp [nthA, hk, e]] at this
    have dm := apply_dim (l := l.take i) ok hall
    have one0 := bad_one (hb i hlt)
    have one : oneC (applyN N (l.take i)) (nthA l i) = 0 := by rw [dm.one]; exact one0
    rw [applyN_snoc hlt]
    generalize hK : applyN N (l.take i) = K at *
    unfold chN
    by_cases hk : (nthA l i).kd = 1
    · rw [if_pos hk]
      obtain ⟨a', ea, la', _, _, e⟩ := ch_set one hk
      rw [e]
      refine ⟨fun hn => p1 (fun j hj => hn j (by omega)), fun j hj hkj haj => ?_, p3⟩
      by_cases r : j = i
      · subst r; exact absurd hk hkj
      · exact p2 j (by omega) hkj haj
    · rw [if_neg hk]
      obtain ⟨t', A, B, o, ea, ei, eo, lt, ho, lB, hp, lp, _, e, _⟩ := bend_pos lok one hk
      have hpN : posC N (nthA l i) = A * o + B := by
        rw [← hp]; unfold posC; rw [(dm.tb _).2]
      rw [e]
      simp only
      rw [nthB_set lt]
      by_cases q : t = t'
      · rw [if_pos q]
        subst q
        refine ⟨fun hn => ?_, fun j hj hkj haj => ?_, by simpa using p3⟩
        · have e1 := p1 (fun j hj => hn j (by omega))
          have e2 := hn i (by omega) hk ea
          rw [e1, set_same (by rw [← hpN]; exact e2)]
        · simp only
          by_cases r : j = i
          · subst r
            rw [hpN, nthI_set lp, if_pos rfl]
          · have ks := bad_key (hb i hlt) (j := j) (by omega)
            obtain ⟨t2, A2, B2, o2, ea2, ei2, eo2, lt2, ho2, lB2, hp2, lp2, _, _, _⟩ := bend_pos ok (bad_one (hb j (by omega))) hkj
            have : t2 = t := by omega
            subst this
            have ho' := (dm.tb t2).2
            have oo : o2 = o := by omega
            subst oo
            rw [nthI_set lp, if_neg (fun e => ?_)]
            · exact p2 j (by omega) hkj haj
            · rw [hp2] at e
              obtain ⟨x1, x2⟩ := grid_inj e lB2 lB
              simp only [sameKey, decide_eq_false_iff_not] at ks
              have k1 : (nthA l j).kd = 2 := (ch_bend ok (bad_one (hb j (by omega))) hkj).1
              have k2 : (nthA l i).kd = 2 := (ch_bend ok one0 hk).1
              exact ks ⟨by omega, by omega, by omega, by omega⟩
      · rw [if_neg q]
        refine ⟨fun hn => p1 (fun j hj => hn j (by omega)), fun j hj hkj haj => ?_, p3⟩
        by_cases r : j = i
        · subst r; exact absurd (by omega) q
        · exact p2 j (by omega) hkj haj
theorem mem_nthA {l : List Act5} {c : Act5} (h : c ∈ l) : ∃ j, j < l.length ∧ nthA l j = c := by
  obtain ⟨k, hk, e⟩ := List.mem_iff_getElem.1 h
  exact ⟨k, hk, by simp [nthA, hk, e]⟩
theorem nthA_mem {l : List Act5} {j : Nat} (h : j < l.length) : nthA l j ∈ l := by
  rw [show nthA l j = l[j] by simp [nthA, h]]; exact List.getElem_mem h
theorem touch_eq {N : NetD} (ok : NetOK N) {l : List Act5} (hz : (batchW N l).2 = 0) {L : List (List Int)} {i k : Nat} : touchL N L l i k = touchD N (applyN N l) L i k := by
  obtain ⟨_, hb⟩ := batch_ok hz
  have harc := fun {a : Nat} (ha : a < N.as.length) => apply_arc ok hb ha l.length (Nat.le_refl _)
  have htab := fun {t : Nat} (ht : t < N.ts.length) => apply_tab ok hb ht l.length (Nat.le_refl _)
  rw [List.take_length] at harc htab
  rw [Bool.eq_iff_iff]
  unfold touchL touchD
  simp only [List.any_eq_true, Bool.or_eq_true, Bool.and_eq_true, List.mem_range, insQ, memQ, decide_eq_true_eq]
  constructor
  · rintro ⟨c, hc, ht⟩
    obtain ⟨j, hj, rfl⟩ := mem_nthA hc
    have one := bad_one (hb j hj)
    unfold touch1 at ht
    by_cases hk : (nthA l j).kd = 1
    · rw [if_pos hk] at ht
      simp only [Bool.and_eq_true, decide_eq_true_eq] at ht
      obtain ⟨h1, h2, h3⟩ := ht
      obtain ⟨a, ea, la, _⟩ := ch_set one hk
      rw [ea, Int.toNat_natCast] at h1 h2 h3
      refine .inl ⟨a, la, ⟨h2, h3⟩, ?_⟩
      rw [(harc la).2 j hj hk ea]
      exact h1
    · rw [if_neg hk] at ht
      simp only [Bool.and_eq_true, decide_eq_true_eq, List.any_eq_true, List.mem_range] at ht
      obtain ⟨h1, v, hv, h2, h3⟩ := ht
      obtain ⟨t, A, B, o, ea, ei, eo, lt, ho, lB, hp, lp, _, _, hat⟩ := bend_pos ok one hk
      rw [ea, Int.toNat_natCast, hat] at h1
      refine .inr ⟨v, hv, h3, ?_⟩
      rw [h2, ea, Int.toNat_natCast]
      simp only [Bool.not_eq_true', sameTB, decide_eq_false_iff_not]
      rintro ⟨_, _, e⟩
      have := (htab lt).2.1 j hj hk ea
      rw [← e, hp] at this
      exact h1 this
  · rintro (⟨a, ha, ⟨h2, h3⟩, h1⟩ | ⟨v, hv, h3, h1⟩)
    · by_cases q : ∃ j, j < l.length ∧ (nthA l j).kd = 1 ∧ (nthA l j).a = a
      · obtain ⟨j, hj, hk, ea⟩ := q
        refine ⟨nthA l j, nthA_mem hj, ?_⟩
        unfold touch1
        rw [if_pos hk, ea, Int.toNat_natCast]
        simp only [Bool.and_eq_true, decide_eq_true_eq]
        refine ⟨?_, h2, h3⟩
        rw [← (harc ha).2 j hj hk ea]
        exact h1
      · exact absurd ((harc ha).1 (fun j hj hk ea => q ⟨j, hj, hk, ea⟩)).symm h1
    · have hvt := ok.vt v hv
      simp only [vtxB, decide_eq_true_eq] at hvt
      have ht : (nthT N.vs v).c.toNat < N.ts.length := by omega
      by_cases q : ∃ j, j < l.length ∧ (nthA l j).kd ≠ 1 ∧ (nthA l j).a = (nthT N.vs v).c.toNat ∧ nthI (nthB N.ts (nthT N.vs v).c.toNat).cs (posC N (nthA l j)) ≠ (nthA l j).w
      · obtain ⟨j, hj, hk, ea', hne⟩ := q
        refine ⟨nthA l j, nthA_mem hj, ?_⟩
        obtain ⟨t, A, B, o, ea, ei, eo, lt, ho, lB, hp, lp, _, _, hat⟩ := bend_pos ok (bad_one (hb j hj)) hk
        unfold touch1
        rw [if_neg hk]
        simp only [Bool.and_eq_true, decide_eq_true_eq, List.any_eq_true, List.mem_range]
        have tt : (nthT N.vs v).c.toNat = t := by omega
        rw [tt, hp] at hne
        refine ⟨?_, v, hv, by omega, h3⟩
        rw [ea, Int.toNat_natCast, hat]
        exact hne
      · have e := (htab ht).1 (fun j hj hk ea => Decidable.byContradiction fun hn => q ⟨j, hj, hk, ea, hn⟩)
        rw [e] at h1
        simp [sameTB] at h1
end Go.Rm

/- Batches: what they touch, by the document; rows of marks alike, counted. -/
set_option linter.unusedSimpArgs false
set_option linter.unusedVariables false
namespace Go.Rm
def nthML (l : List (List Bool)) (i : Nat) : List Bool := l.getD i []
theorem nthML_eq {l : List (List Bool)} {i : Nat} (hi : i < l.length) : nthML l i = l[i] := by simp [nthML, hi]
/-- rows of marks -/
structure RowLM (h : Heap) (s : Sl) (l : List (List Bool)) : Prop where
  ok : s.ok
  len : l.length = s.n
  val : ∀ i, i < l.length → ∃ u : Sl, hc h s.b (s.o + i) = some u.v ∧ RowM h u (nthML l i)
/-- a row of marks that stays, whatever is done to the row it is in -/
def KeptM (t : Sl) (h : Heap) (u : Sl) (m : List Bool) : Prop := ∀ h', Mod (fun j => t.nl = false ∧ j = t.b) h h' → RowM h' u m
structure RefTo (Y : Sys) : Prop where
  In : RefIn Y
  T : RefSame Y
  Touched : Y.Has F.rref20_Touched S_rref20_Touched
section
variable {Y : Sys} {h h' : Heap}
theorem boolsb_eq {a b : List Bool} (hl : a.length = b.length) (h : ∀ i, i < a.length → nthM a i = nthM b i) : a = b := by
  apply List.ext_getElem hl
  intro i h1 h2
  have := h i h1
  simpa [nthM, h1, h2] using this
def SaBJ (s t : Sl) (a b : List Bool) (h0 : Heap) (e : List Value) (h' : Heap) : Prop :=
  ∃ (i : Nat) (v2 v4 v5 v6 : Value), e = [s.v, t.v, v2, .int .i64 i, v4, v5, v6] ∧ i ≤ a.length ∧ h' = h0 ∧ ∀ j, j < i → nthM a j = nthM b j
theorem sameBb_spec (H : Y.Has F.rref11_SameBools S_rref11_SameBools) {s t : Sl} {a b : List Bool} (ra : RowM h s a) (rb : RowM h t b) (hbig : a.length ≤ 1000000) {R : Value → Heap → Prop} (hr : R (.bool (decide (a = b))) h) :
    CallP Y F.rref11_SameBools [s.v, t.v] h R := by
  have la := ra.len
  have lb := rb.len
  refine .of_has H rfl ?_
  simp [S_rref11_SameBools, FnS.wp]
  by_cases c0 : s.n = t.n
  rotate_left
  · have : ¬ a = b := fun e => c0 (by rw [← la, ← lb, e])
    simp [this] at hr
    have c0' : ¬ (s.n : Int) = t.n := by omega
    simp [c0, c0']
    exact hr
  simp [c0]
  refine wp_loop' (SaBJ s t a b h) (fun e _ => a.length - argI e 3) ⟨0, _, _, _, _, rfl, by omega, rfl, fun j hj => by omega⟩ ?_
  rintro e h2 ⟨i, v2, v4, v5, v6, rfl, hi, rfl, hall⟩
  by_cases c : i < a.length
  · have c1 : (i : Int) < s.n := by omega
    have c2 : i < s.n := by omega
    have c3 : (i : Int) < t.n := by omega
    have c4 : i < t.n := by omega
    have w1 : IntKind.i64.wrap ((i : Int) + 1) = (i : Int) + 1 := i64_wrap (by omega)
    have k1 := ra.val i c
    have k2 := rb.val i (by omega)
    simp [c1, c2, c3, c4, sem_idxa ra.ok, sem_idxa rb.ok, k1, k2]
    by_cases e : nthM a i = nthM b i
    · simp [e, w1]
      refine ⟨⟨i + 1, _, _, _, _, rfl, by omega, rfl, fun j hj => by by_cases q : j = i; (subst q; exact e); exact hall j (by omega)⟩, by simp [argI]; omega⟩
    · have : ¬ a = b := fun q => e (by rw [q])
      simp [this] at hr
      simp [e]
      exact hr
  · have c1 : ¬ (i : Int) < s.n := by omega
    have : a = b := boolsb_eq (by omega) fun j hj => hall j (by omega)
    simp [this] at hr
    simp [c1]
    exact hr
theorem RowLM.ext {s : Sl} {l : List (List Bool)} (r : RowLM h s l) (e : Ext h h') : RowLM h' s l :=
  ⟨r.ok, r.len, fun i hi => by obtain ⟨u, a, b⟩ := r.val i hi; exact ⟨u, e.hc a (fun h => h), b.ext e⟩⟩
theorem KeptM.ext {t : Sl} {u : Sl} {m : List Bool} (k : KeptM t h u m) (e : Ext h h') : KeptM t h' u m := fun h'' m' => k h'' ((e.mono (fun _ _ h => h.elim)).trans m')
theorem KeptM.app {t t' : Sl} {u : Sl} {m : List Bool} (k : KeptM t h u m) (e : Mod (fun j => t.nl = false ∧ j = t.b) h h') (hs : (t'.b = t.b ∧ t'.nl = t.nl) ∨ (h.size ≤ t'.b ∧ t'.nl = false)) : KeptM t' h' u m := by
  intro h'' m'
  refine k h'' (Mod.then e m' (fun j hj hq => ?_))
  rcases hs with ⟨e1, e2⟩ | ⟨e1, e2⟩
  · rw [e1, e2] at hq; exact hq
  · omega
theorem rowM_own {s : Sl} {m : List Bool} (o : Own h 1 s (boolsM m)) : RowM h s m :=
  ⟨o.ok, by have := o.1; rw [boolsM_len] at this; simpa using this, fun i hi => by
    refine o.cell ?_
    simp [boolsM, nthM, hi]⟩
def mk1 (n : Nat) (T : Nat → Bool) : List Bool := (List.range n).map T
@[simp] theorem mk1_len {n : Nat} {T : Nat → Bool} : (mk1 n T).length = n := by simp [mk1]
theorem nthM_mk1 {n c : Nat} {T : Nat → Bool} (hc : c < n) : nthM (mk1 n T) c = T c := by simp [nthM, mk1, hc]
theorem mk1_congr {n : Nat} {T T' : Nat → Bool} (e : ∀ c, c < n → T c = T' c) : mk1 n T = mk1 n T' := by
  apply List.map_congr_left
  intro c hc
  exact e c (by simpa using hc)
theorem mk1_none {n : Nat} : List.replicate n (Value.bool false) = boolsM (mk1 n fun _ => false) := by
  apply List.ext_getElem
  · simp [boolsM]
  · intro k h1 h2
    simp [boolsM, mk1]
/-- a mark is stored -/
theorem st_mark {K : Value → Heap → Prop} {b n c : Nat} {T : Nat → Bool} {x : Bool} (o : Own h 1 (Sl.at b n n) (boolsM (mk1 n T))) (hc : c < n)
    (hr : ∀ h' , (∀ T', (∀ d, d < n → T' d = if d = c then x else T d) → Own h' 1 (Sl.at b n n) (boolsM (mk1 n T'))) → Mod (fun j => j = b) h h' → K undef h') : StoreP h b c (.bool x) K := by
  refine stAt o (k := c) (by rw [boolsM_len, mk1_len]; exact hc) ?_
  intro h' o' m'
  refine hr h' (fun T' hT => ?_) m'
  have : (boolsM (mk1 n T)).set c (.bool x) = boolsM (mk1 n T') := by
    apply List.ext_getElem
    · simp [boolsM]
    · intro k h1 h2
      have hk : k < n := by simpa [boolsM] using h2
      rw [List.getElem_set]
      simp only [boolsM, mk1, List.getElem_map, List.getElem_range, hT k hk]
      by_cases q : c = k
      · subst q; simp
      · simp [q, show ¬ k = c from fun e => q e.symm]
  rw [← this]
  exact o'
theorem StoreP.mono {b o : Nat} {v : Value} {K K' : Value → Heap → Prop} (s : StoreP h b o v K) (hk : ∀ u h', K u h' → K' u h') : StoreP h b o v K' := ⟨s.1, s.2.1, hk _ _ s.2.2⟩
def wDiff (N M : NetD) (a : Nat) : Bool := decide ((nthT N.as a).c ≠ (nthT M.as a).c)
def tDiff (N M : NetD) (v : Nat) : Bool := !sameTB (nthB N.ts (nthT N.vs v).c.toNat) (nthB M.ts (nthT N.vs v).c.toNat)
/-- marked by the first arcs within; by all of them and the first vertices -/
def inJ (N M : NetD) (row : List Int) (c j : Nat) : Bool := ((pickL (insQ N row c) N.as.length).take j).any fun a => wDiff N M a.toNat
def inA (N M : NetD) (row : List Int) (c : Nat) : Bool := (List.range N.as.length).any fun a => insQ N row c a && wDiff N M a
def memJ (N M : NetD) (row : List Int) (c j : Nat) : Bool := inA N M row c || ((pickL (memQ row c) N.vs.length).take j).any fun v => tDiff N M v.toNat
theorem inJ_all {N M : NetD} {row : List Int} {c j : Nat} (hj : (pickL (insQ N row c) N.as.length).length ≤ j) : inJ N M row c j = inA N M row c := by
  unfold inJ inA
  rw [List.take_of_length_le hj, pickL_any]
theorem memJ_all {N M : NetD} {L : List (List Int)} {i c j : Nat} (hj : (pickL (memQ (nthL L i) c) N.vs.length).length ≤ j) : memJ N M (nthL L i) c j = touchD N M L i c := by
  unfold memJ
  rw [List.take_of_length_le hj, pickL_any]
  rfl
theorem inJ_succ {N M : NetD} {row : List Int} {c j a : Nat} (hj : j < (pickL (insQ N row c) N.as.length).length) (ha : nthI (pickL (insQ N row c) N.as.length) j = (a : Int)) : inJ N M row c (j + 1) = (inJ N M row c j || wDiff N M a) := by
  unfold inJ
  rw [List.take_succ_eq_append_getElem hj, List.any_append]
  have : (pickL (insQ N row c) N.as.length)[j] = (a : Int) := by rw [← ha]; simp [nthI, hj]
  simp [this]
theorem memJ_succ {N M : NetD} {row : List Int} {c j v : Nat} (hj : j < (pickL (memQ row c) N.vs.length).length) (hv : nthI (pickL (memQ row c) N.vs.length) j = (v : Int)) : memJ N M row c (j + 1) = (memJ N M row c j || tDiff N M v) := by
  unfold memJ
  rw [List.take_succ_eq_append_getElem hj, List.any_append]
  have : (pickL (memQ row c) N.vs.length)[j] = (v : Int) := by rw [← hv]; simp [nthI, hj]
  simp [this, Bool.or_assoc]
def DtI1 (A B C : Nat) (N M : NetD) (L : List (List Int)) (h0 : Heap) (e : List Value) (h' : Heap) : Prop :=
  ∃ (i : Nat) (t : Sl) (vals : List Value) (v0 v1 v2 v6 v9 v10 v11 v12 v13 v14 v15 v16 v17 v18 v19 : Value), e = [v0, v1, v2, .pointer (some ⟨A, 0, none⟩), .pointer (some ⟨B, 0, none⟩), .pointer (some ⟨C, 0, none⟩), v6, t.v, .int .i64 ((i : Int) + 1), v9, v10, v11, v12, v13, v14, v15, v16, v17, v18, v19] ∧ i ≤ L.length ∧ Own h' 1 t vals ∧ vals.length = i ∧
    (∀ k, k < i → ∃ u : Sl, vals[k]? = some u.v ∧ KeptM t h' u (mk1 (gateN L k) (touchD N M L k))) ∧ (t.nl = false → h0.size ≤ t.b) ∧ Ext h0 h'
def DtI2 (A B C U i n : Nat) (t : Sl) (D : Nat → Bool) (h0 : Heap) (e : List Value) (h' : Heap) : Prop :=
  ∃ (c : Nat) (T : Nat → Bool) (v0 v1 v2 v6 v11 v12 v13 v14 v15 v16 v17 v18 v19 : Value), e = [v0, v1, v2, .pointer (some ⟨A, 0, none⟩), .pointer (some ⟨B, 0, none⟩), .pointer (some ⟨C, 0, none⟩), v6, t.v, .int .i64 ((i : Int) + 1), .slice (some ⟨U, 0, none⟩) n n, .int .i64 c, v11, v12, v13, v14, v15, v16, v17, v18, v19] ∧ c ≤ n ∧
    Own h' 1 (Sl.at U n n) (boolsM (mk1 n T)) ∧ (∀ d, d < n → T d = (decide (d < c) && D d)) ∧ Mod (fun j => j = U) h0 h'
def DtI3 (A B C U i n c : Nat) (t x : Sl) (D : Nat → Bool) (E : Nat → Bool) (h0 : Heap) (e : List Value) (h' : Heap) : Prop :=
  ∃ (j : Nat) (T : Nat → Bool) (v0 v1 v2 v6 v13 v14 v15 v16 v17 v18 v19 : Value), e = [v0, v1, v2, .pointer (some ⟨A, 0, none⟩), .pointer (some ⟨B, 0, none⟩), .pointer (some ⟨C, 0, none⟩), v6, t.v, .int .i64 ((i : Int) + 1), .slice (some ⟨U, 0, none⟩) n n, .int .i64 c, x.v, .int .i64 j, v13, v14, v15, v16, v17, v18, v19] ∧ j ≤ x.n ∧
    Own h' 1 (Sl.at U n n) (boolsM (mk1 n T)) ∧ (∀ d, d < n → T d = if d = c then E j else (decide (d < c) && D d)) ∧ Mod (fun j => j = U) h0 h'
def DtI4 (A B C U i n c : Nat) (t y : Sl) (D : Nat → Bool) (E : Nat → Bool) (h0 : Heap) (e : List Value) (h' : Heap) : Prop :=
  ∃ (j : Nat) (T : Nat → Bool) (v0 v1 v2 v6 v11 v12 v15 v16 v17 v18 v19 : Value), e = [v0, v1, v2, .pointer (some ⟨A, 0, none⟩), .pointer (some ⟨B, 0, none⟩), .pointer (some ⟨C, 0, none⟩), v6, t.v, .int .i64 ((i : Int) + 1), .slice (some ⟨U, 0, none⟩) n n, .int .i64 c, v11, v12, y.v, .int .i64 j, v15, v16, v17, v18, v19] ∧ j ≤ y.n ∧
    Own h' 1 (Sl.at U n n) (boolsM (mk1 n T)) ∧ (∀ d, d < n → T d = if d = c then E j else (decide (d < c) && D d)) ∧ Mod (fun j => j = U) h0 h'
set_option maxHeartbeats 2000000 in
theorem dtouched_spec (X : RefTo Y) {N M : NetD} {L : List (List Int)} {sv sa st sv' sa' st' s : Sl} (rn : NetH h sv sa st N) (rm : NetH h sv' sa' st' M) (r : RowL h s L) (ok : NetOK N) (pk : PartOK N.vs.length L) (dm : DimEq N M) {R : Value → Heap → Prop}
    (hr : ∀ h' t, Ext h h' → RowLM h' t ((List.range L.length).map fun i => mk1 (gateN L i) (touchD N M L i)) → R t.v h') : CallP Y F.rref20_Touched [netV sv sa st, netV sv' sa' st', ptV s] h R := by
  refine .of_has X.Touched rfl ?_
  have cc := CellsOf.of ok pk
  have bA := ok.ba
  have bL := pk.bL
  have bn := pk.bn
  have lL := r.len
  have la := rn.ra.len
  have lv := rn.rv.len
  have lt := rn.rt.len
  have la' := rm.ra.len
  have lt' := rm.rt.len
  have dA := dm.al
  have dT := dm.tl
  simp [S_rref20_Touched, FnS.wp, ptV, netV]
  refine ef_new_box ?_
  intro A h1 g1 A1 e1
  simp
  refine ef_new_box ?_
  intro B h2 g2 B2 e2
  simp
  refine ef_new_box ?_
  intro C h3 g3 C3 e3
  have x3 := (e1.trans e2).trans e3
  have z1 := e1.size
  have z2 := e2.size
  have z3 := e3.size
  have lA := A1.lt
  have lB := B2.lt
  have lC := C3.lt
  have A3 := (A1.ext e2).ext e3
  have B3 := B2.ext e3
  simp
  refine wp_loop' (DtI1 A B C N M L h3) (fun e _ => L.length + 1 - argI e 8) ⟨0, Sl.nil, [], _, _, _, _, _, _, _, _, _, _, _, _, _, _, _, rfl, by omega, Own.nil, rfl, fun k hk => by omega, fun h => (by cases h), Mod.refl _⟩ ?_
  rintro e h4 ⟨i, t, vals, v0, v1, v2, v6, v9, v10, v11, v12, v13, v14, v15, v16, v17, v18, v19, rfl, hi, o4, hvl, hk4, ft4, e4⟩
  have x4 := x3.trans e4
  have z4 := e4.size
  have A4 := A3.ext e4
  have B4 := B3.ext e4
  have C4 := C3.ext e4
  have tn := o4.1
  simp at tn
  by_cases c1 : i < L.length
  rotate_left
  · have c1' : ¬ (i : Int) + 1 ≤ s.n := by omega
    obtain rfl : i = L.length := by omega
    simp [C4.hc, c1']
    refine hr h4 t x4 ⟨o4.ok, by simp; omega, fun k hk => ?_⟩
    have hk : k < L.length := by simpa using hk
    obtain ⟨u, hu, ku⟩ := hk4 k hk
    refine ⟨u, o4.cell hu, ?_⟩
    rw [nthML_eq (by simpa using hk)]
    simp only [List.getElem_map, List.getElem_range]
    exact ku h4 (Mod.refl _)
  have c1' : (i : Int) + 1 ≤ s.n := by omega
  have wi : IntKind.i64.wrap ((i : Int) + 1 + 1) = (i : Int) + 1 + 1 := i64_wrap (by omega)
  simp [C4.hc, c1', rd_blk C4]
  rw [show (Value.agg #[s.v]) = ptV s from rfl]
  have hb16 : ∀ i, i < L.length → (nthL L i).length ≤ 1000000 ∧ ∀ j, j < (nthL L i).length → -1 ≤ nthI (nthL L i) j ∧ nthI (nthL L i) j < 4611686018427387904 := fun i hi => by
    obtain ⟨y1, y2, _, _⟩ := lvE_zero (pk.lv i hi)
    exact ⟨by omega, fun j hj => by have := y2 j (by omega); omega⟩
  refine count16_spec X.In.P (r.ext x4) (by omega) hb16 ?_
  intro h5 e5
  have x5 := x4.trans e5
  rw [lvl_at c1, (cells_row pk c1).2.1]
  have gb := (cells_row pk c1).2.2.1
  simp
  refine ef_makeM (n := gateN L i) (by omega) rfl ?_
  intro U h6 gU o6 e6 lU
  have x6 := x5.trans e6
  have z5 := e5.size
  have z6 := e6.size
  rw [mk1_none] at o6
  have A6 := (A4.ext e5).ext e6
  have B6 := (B4.ext e5).ext e6
  have C6 := (C4.ext e5).ext e6
  simp
  refine wp_loop' (DtI2 A B C U i (gateN L i) t (touchD N M L i) h6) (fun e _ => gateN L i - argI e 10) ⟨0, _, _, _, _, _, _, _, _, _, _, _, _, _, _, rfl, by omega, o6, fun d hd => by simp, Mod.refl _⟩ ?_
  rintro e h7 ⟨c, T, v0, v1, v2, v6, v11, v12, v13, v14, v15, v16, v17, v18, v19, rfl, hcc, o7, hT, m7⟩
  have x7 : Ext h h7 := Mod.ext x6 m7 (fun j hj => by omega)
  have A7 := m7.blk A6 (by omega)
  have B7 := m7.blk B6 (by omega)
  have C7 := m7.blk C6 (by omega)
  by_cases c2 : c < gateN L i
  rotate_left
  · have c2' : ¬ (c : Int) < gateN L i := by omega
    obtain rfl : c = gateN L i := by omega
    have x47 : Ext h4 h7 := Mod.ext (e5.trans e6) m7 (fun j hj => by omega)
    have o47 := o4.mod x47 (fun _ h => h)
    simp
    rw [show Value.slice (some ⟨U, 0, none⟩) (gateN L i) (gateN L i) = (Sl.at U (gateN L i) (gateN L i)).v from rfl]
    refine ef_bslice1_bx rfl ?_
    intro b8 h8 g8 V8 e8
    simp
    refine ef_append1b (bytes := 24) rfl (o47.ext' e8) V8 (by omega) (by omega) ?_
    intro t9 h9 o9 hn9 m9 ht9
    have z7 := m7.size
    have z8 := e8.size
    simp [wi]
    rw [show (i : Int) + 1 + 1 = ((i + 1 : Nat) : Int) + 1 by omega]
    refine ⟨⟨i + 1, t9, _, _, _, _, _, _, _, _, _, _, _, _, _, _, _, _, rfl, by omega, o9, by simp [hvl], fun k hk => ?_, fun hn => ?_, ?_⟩, by simp [argI]; omega⟩
    · by_cases q : k = i
      · subst q
        refine ⟨Sl.at U (gateN L k) (gateN L k), by rw [List.getElem?_append_right (by omega)]; simp [hvl], fun h'' m'' => ?_⟩
        have hTD : mk1 (gateN L k) T = mk1 (gateN L k) (touchD N M L k) := mk1_congr fun d hd => by rw [hT d hd]; simp [hd]
        rw [← hTD]
        refine rowM_own (((o7.mod e8 (fun _ h => h)).mod m9 (fun _ hq => ?_)).mod m'' (fun _ hq => ?_))
        · have := o47.lt hq.1
          have := o4.lt hq.1
          have := hq.2
          simp at this
          omega
        · rcases ht9 with ⟨k1, k2⟩ | ⟨k1, _⟩
          · rw [k1, k2] at hq
            have := o4.lt hq.1
            have := hq.2
            simp at this
            omega
          · have hq2 := hq.2
            simp at hq2
            have l7 := (o7.lt rfl)
            simp at l7
            omega
      · obtain ⟨u, hu, ku⟩ := hk4 k (by omega)
        refine ⟨u, by rw [List.getElem?_append_left (by omega)]; exact hu, ?_⟩
        exact ((ku.ext x47).ext e8).app m9 ht9
    · rcases ht9 with ⟨k1, k2⟩ | ⟨k1, _⟩
      · rw [k1]; exact ft4 (by rw [← k2]; exact hn)
      · omega
    · exact Mod.ext ((e4.trans x47).trans e8) m9 (fun j hj => by have := ft4 hj.1; have := hj.2; omega)
  have c2' : (c : Int) < gateN L i := by omega
  have wc : IntKind.i64.wrap ((c : Int) + 1) = (c : Int) + 1 := i64_wrap (by omega)
  simp [c2, c2', rd_blk A7, rd_blk C7]
  rw [show (Value.agg #[sv.v, sa.v, st.v]) = netV sv sa st from rfl, show (Value.agg #[s.v]) = ptV s from rfl]
  refine dinside_spec X.In (rn.ext x7) (r.ext x7) cc c1 ?_
  intro h8 x e8 ox fx
  have x8 := x7.trans e8
  have z7 := m7.size
  have z8 := e8.size
  have o8 := o7.mod e8 (fun _ h => h)
  have m8 : Mod (fun j => j = U) h6 h8 := m7.trans (e8.mono fun _ _ h => h.elim)
  have rx := ox.row64
  have lx := rx.len
  have plx := pickL_len (p := insQ N (nthL L i) c) (n := N.as.length)
  have lU7 := o7.lt rfl
  simp at lU7
  have A8 := A7.ext e8
  have B8 := B7.ext e8
  have C8 := C7.ext e8
  have hiU : ∀ g, IOp.sem Y g (.idxa 1) [.slice (some ⟨U, 0, none⟩) (gateN L i) (gateN L i), .int .i64 c] = some (.pointer (some ⟨U, c, none⟩)) := fun g => by
    have := sem_idxF (Y := Y) (h := g) (b := U) (sz := 1) (show gateN L i ≤ 9223372036854775807 by omega) c2 (Nat.le_refl _)
    simpa using this
  have cellU : ∀ {g : Heap} {T : Nat → Bool}, Own g 1 (Sl.at U (gateN L i) (gateN L i)) (boolsM (mk1 (gateN L i) T)) → hc g U c = some (.bool (T c)) := fun {g T} o => by
    have := o.cell (i := c) (v := .bool (T c)) (by simp [boolsM, mk1, c2])
    simpa using this
  simp
  refine wp_loop' (DtI3 A B C U i (gateN L i) c t x (touchD N M L i) (inJ N M (nthL L i) c) h8) (fun e _ => x.n - argI e 12)
    ⟨0, T, _, _, _, _, _, _, _, _, _, _, _, rfl, by omega, o8, fun d hd => ?_, Mod.refl _⟩ ?_
  · rw [hT d hd]
    by_cases q : d = c
    · subst q; simp [inJ]
    · simp [q]
  rintro e h9 ⟨j, T9, v0, v1, v2, v6, v13, v14, v15, v16, v17, v18, v19, rfl, hj, o9, hT9, m9⟩
  have z9 := m9.size
  have rx9 := (ox.mod m9 (fun hn e => by have := fx hn; omega)).row64
  have A9 := m9.blk A8 (by omega)
  have B9 := m9.blk B8 (by omega)
  have C9 := m9.blk C8 (by omega)
  have x9 : Ext h h9 := Mod.ext x8 m9 (fun j hj => by omega)
  have T9c := hT9 c c2
  rw [if_pos rfl] at T9c
  by_cases c3 : j < x.n
  · have c3' : (j : Int) < x.n := by omega
    have cj : j < (pickL (insQ N (nthL L i) c) N.as.length).length := by omega
    have wj : IntKind.i64.wrap ((j : Int) + 1) = (j : Int) + 1 := i64_wrap (by omega)
    obtain ⟨a, ha, la1, _⟩ := pickL_at cj
    have vx := rx9.val j cj
    rw [ha] at vx
    have an : a < sa.n := by omega
    have an' : a < sa'.n := by omega
    have at1 := inJ_succ (M := M) cj ha
    have fin : ∀ y : Bool, y = (T9 c || wDiff N M a) → StoreP h9 U c (.bool y) (fun _ h' => ∃ (T' : Nat → Bool), Own h' 1 (Sl.at U (gateN L i) (gateN L i)) (boolsM (mk1 (gateN L i) T')) ∧
        (∀ d, d < gateN L i → T' d = if d = c then inJ N M (nthL L i) c (j + 1) else (decide (d < c) && touchD N M L i d)) ∧ Mod (fun j => j = U) h8 h') := fun y hy => by
      refine st_mark o9 c2 ?_
      intro h' hT' m'
      refine ⟨_, hT' (fun d => if d = c then y else T9 d) (fun d hd => rfl), fun d hd => ?_, m9.trans m'⟩
      by_cases q : d = c
      · subst q
        simp only [if_true]
        rw [hy, T9c, at1]
      · simp only [q, if_false]
        rw [hT9 d hd]
        simp [q]
    cases hv : T9 c with
    | true =>
      simp [c3, c3', hiU, cellU o9, hv, Bool.true_or]
      refine (fin true (by rw [hv]; rfl)).mono ?_
      rintro u h10 ⟨T', o10, hT10, m10⟩
      simp [wj]
      exact ⟨⟨j + 1, T', _, _, _, _, _, _, _, _, _, _, _, rfl, by omega, o10, hT10, m10⟩, by simp [argI]; omega⟩
    | false =>
      have w2 := (rn.ext x9).ra.v2 a la1
      have w2' := (rm.ext x9).ra.v2 a (by omega)
      simp [c3, c3', hiU, cellU o9, hv, A9.hc, B9.hc, sem_idxa rx9.ok, vx, sem_idxa rn.ra.ok, sem_idxa rm.ra.ok, an, an', w2, w2']
      refine (fin _ (by rw [hv]; simp [wDiff])).mono ?_
      rintro u h10 ⟨T', o10, hT10, m10⟩
      simp [wj]
      exact ⟨⟨j + 1, T', _, _, _, _, _, _, _, _, _, _, _, rfl, by omega, o10, hT10, m10⟩, by simp [argI]; omega⟩
  have c3' : ¬ (j : Int) < x.n := by omega
  obtain rfl : j = x.n := by omega
  have m69 : Mod (fun j => j = U) h6 h9 := m8.trans m9
  have hE0 : ∀ d, d < gateN L i → T9 d = if d = c then inA N M (nthL L i) c else (decide (d < c) && touchD N M L i d) := fun d hd => by
    rw [hT9 d hd, inJ_all (by omega)]
  clear hT9 T9c
  simp [c3', rd_blk C9]
  rw [show (Value.agg #[s.v]) = ptV s from rfl]
  refine members_spec X.In (r.ext x9) pk c1 ?_
  intro h10 y e10 oy fy
  have x10 := x9.trans e10
  have z10 := e10.size
  have o10 := o9.mod e10 (fun _ h => h)
  have ry := oy.row64
  have ly := ry.len
  have ply := pickL_len (p := memQ (nthL L i) c) (n := N.vs.length)
  have A10 := A9.ext e10
  have B10 := B9.ext e10
  have C10 := C9.ext e10
  have m610 : Mod (fun j => j = U) h6 h10 := m69.trans (e10.mono fun _ _ h => h.elim)
  simp
  refine wp_loop' (DtI4 A B C U i (gateN L i) c t y (touchD N M L i) (memJ N M (nthL L i) c) h10) (fun e _ => y.n - argI e 14)
    ⟨0, T9, _, _, _, _, _, _, _, _, _, _, _, rfl, by omega, o10, fun d hd => ?_, Mod.refl _⟩ ?_
  · rw [hE0 d hd]
    simp [memJ]
  rintro e h11 ⟨j, T11, v0, v1, v2, v6, v11, v12, v15, v16, v17, v18, v19, rfl, hj, o11, hT11, m11⟩
  have z11 := m11.size
  have ry11 := (oy.mod m11 (fun hn e => by have := fy hn; omega)).row64
  have A11 := m11.blk A10 (by omega)
  have B11 := m11.blk B10 (by omega)
  have C11 := m11.blk C10 (by omega)
  have x11 : Ext h h11 := Mod.ext x10 m11 (fun j hj => by omega)
  have T11c := hT11 c c2
  rw [if_pos rfl] at T11c
  by_cases c4 : j < y.n
  rotate_left
  · have c4' : ¬ (j : Int) < y.n := by omega
    obtain rfl : j = y.n := by omega
    simp [c4', wc]
    refine ⟨⟨c + 1, T11, _, _, _, _, _, _, _, _, _, _, _, _, _, rfl, by omega, o11, fun d hd => ?_, m610.trans m11⟩, by simp [argI]; omega⟩
    rw [hT11 d hd]
    by_cases q : d = c
    · subst q
      have : memJ N M (nthL L i) d y.n = touchD N M L i d := memJ_all (by omega)
      simp [this]
    · by_cases q2 : d < c
      · simp [q, q2, show d < c + 1 by omega]
      · simp [q, q2, show ¬ d < c + 1 by omega]
  have c4' : (j : Int) < y.n := by omega
  have cj : j < (pickL (memQ (nthL L i) c) N.vs.length).length := by omega
  have wj : IntKind.i64.wrap ((j : Int) + 1) = (j : Int) + 1 := i64_wrap (by omega)
  obtain ⟨v, hv', lv1, _⟩ := pickL_at cj
  have vy := ry11.val j cj
  rw [hv'] at vy
  have vn : v < sv.n := by omega
  have at1 := memJ_succ (M := M) cj hv'
  have hvt := ok.vt v lv1
  simp only [vtxB, decide_eq_true_eq] at hvt
  obtain ⟨tt, htt⟩ : ∃ x : Nat, (nthT N.vs v).c = x := ⟨(nthT N.vs v).c.toNat, by omega⟩
  have ltt : tt < N.ts.length := by omega
  have w3 := (rn.ext x11).rv.v2 v lv1
  rw [htt] at w3
  have htd : tDiff N M v = !sameTB (nthB N.ts tt) (nthB M.ts tt) := by unfold tDiff; rw [htt]; rfl
  rw [htd] at at1
  have fin : ∀ z : Bool, z = (T11 c || !sameTB (nthB N.ts tt) (nthB M.ts tt)) → ∀ {g : Heap}, Ext h11 g → StoreP g U c (.bool z) (fun _ h' => ∃ (T' : Nat → Bool), Own h' 1 (Sl.at U (gateN L i) (gateN L i)) (boolsM (mk1 (gateN L i) T')) ∧
      (∀ d, d < gateN L i → T' d = if d = c then memJ N M (nthL L i) c (j + 1) else (decide (d < c) && touchD N M L i d)) ∧ Mod (fun j => j = U) h10 h') := fun z hz g eg => by
    refine st_mark (o11.mod eg (fun _ h => h)) c2 ?_
    intro h' hT' m'
    refine ⟨_, hT' (fun d => if d = c then z else T11 d) (fun d hd => rfl), fun d hd => ?_, (m11.trans (eg.mono fun _ _ h => h.elim)).trans m'⟩
    by_cases q : d = c
    · subst q
      simp only [if_true]
      rw [hz, T11c, at1]
    · simp only [q, if_false]
      rw [hT11 d hd]
      simp [q]
  cases hv : T11 c with
  | true =>
    simp [c4, c4', A11.hc, sem_idxa ry11.ok, vy, sem_idxa rn.rv.ok, vn, w3, hiU, cellU o11, hv]
    refine (fin true (by rw [hv]; rfl) (Mod.refl _)).mono ?_
    rintro u h12 ⟨T', o12, hT12, m12⟩
    simp [wj]
    exact ⟨⟨j + 1, T', _, _, _, _, _, _, _, _, _, _, _, rfl, by omega, o12, hT12, m12⟩, by simp [argI]; omega⟩
  | false =>
    obtain ⟨uu, rdt, _, ru⟩ := (rn.ext x11).rt.rd (i := tt) ltt
    obtain ⟨uu', rdt', _, ru'⟩ := (rm.ext x11).rt.rd (i := tt) (by omega)
    have tn1 : tt < st.n := by omega
    have tn2 : tt < st'.n := by omega
    have csb := tab_ok (ok.tab tt ltt)
    simp [c4, c4', A11.hc, B11.hc, sem_idxa ry11.ok, vy, sem_idxa rn.rv.ok, vn, w3, hiU, cellU o11, hv, sem_idxa rn.rt.ok, sem_idxa rm.rt.ok, tn1, tn2, rdt, rdt']
    rw [show (Value.agg #[.int .i64 (nthB N.ts tt).i, .int .i64 (nthB N.ts tt).o, uu.v]) = tabV (nthB N.ts tt).i (nthB N.ts tt).o uu from rfl, show (Value.agg #[.int .i64 (nthB M.ts tt).i, .int .i64 (nthB M.ts tt).o, uu'.v]) = tabV (nthB M.ts tt).i (nthB M.ts tt).o uu' from rfl]
    refine rsamet_spec X.T ru ru' ?_ ?_
    · have := ru.len
      obtain ⟨q1, q2, q3, q4, q5, _⟩ := csb
      have : (nthB N.ts tt).i * (nthB N.ts tt).o ≤ 16 * 16 := Int.mul_le_mul q2 q4 q3 (by omega)
      omega
    intro h12 e12
    simp [hiU]
    refine (fin _ (by rw [hv]; simp [sameTB]) e12).mono ?_
    rintro u h13 ⟨T', o13, hT13, m13⟩
    simp [wj]
    exact ⟨⟨j + 1, T', _, _, _, _, _, _, _, _, _, _, _, rfl, by omega, o13, hT13, m13⟩, by simp [argI]; omega⟩
end
end Go.Rm

/- Batches: rows of marks: alike, counted; a word's changes. -/
set_option linter.unusedSimpArgs false
set_option linter.unusedVariables false
namespace Go.Rm
section
variable {Y : Sys} {h h' : Heap}
theorem ToldH.rows {lo up tb : Nat} {L : List (List Int)} {bt : Nat → Nat} {T : Nat → Nat → Bool} (t : ToldH lo up h tb L bt T) : RowLM h (Sl.at tb L.length L.length) ((List.range L.length).map fun i => mk1 (gateN L i) (T i)) := by
  refine ⟨t.own.ok, by simp, fun i hi => ?_⟩
  have hi : i < L.length := by simpa using hi
  refine ⟨Sl.at (bt i) (gateN L i) (gateN L i), t.own.cell (rowQ_get hi), ?_⟩
  rw [nthML_eq (by simpa using hi)]
  simp only [List.getElem_map, List.getElem_range]
  exact rowM_own (t.row i hi)
theorem nthML_map {n i : Nat} {f : Nat → List Bool} (hi : i < n) : nthML ((List.range n).map f) i = f i := by
  rw [nthML_eq (by simpa using hi)]
  simp
def SrI (s t : Sl) (a b : List (List Bool)) (h0 : Heap) (e : List Value) (h' : Heap) : Prop :=
  ∃ (i : Nat) (v2 v4 v5 v6 : Value), e = [s.v, t.v, v2, .int .i64 i, v4, v5, v6] ∧ i ≤ a.length ∧ h' = h0 ∧ ∀ j, j < i → nthML a j = nthML b j
theorem samerows_spec (H : Y.Has F.rref20_SameRows S_rref20_SameRows) (HB : Y.Has F.rref11_SameBools S_rref11_SameBools) {s t : Sl} {a b : List (List Bool)} (ra : RowLM h s a) (rb : RowLM h t b) (hbig : a.length ≤ 1000000) (hrow : ∀ i, i < a.length → (nthML a i).length ≤ 1000000) {R : Value → Heap → Prop} (hr : R (.bool (decide (a = b))) h) :
    CallP Y F.rref20_SameRows [s.v, t.v] h R := by
  have la := ra.len
  have lb := rb.len
  refine .of_has H rfl ?_
  simp [S_rref20_SameRows, FnS.wp]
  by_cases c0 : s.n = t.n
  rotate_left
  · have : ¬ a = b := fun e => c0 (by rw [← la, ← lb, e])
    simp [this] at hr
    have c0' : ¬ (s.n : Int) = t.n := by omega
    simp [c0, c0']
    exact hr
  simp [c0]
  refine wp_loop' (SrI s t a b h) (fun e _ => a.length - argI e 3) ⟨0, _, _, _, _, rfl, by omega, rfl, fun j hj => by omega⟩ ?_
  rintro e h2 ⟨i, v2, v4, v5, v6, rfl, hi, rfl, hall⟩
  by_cases c : i < a.length
  · have c1 : (i : Int) < s.n := by omega
    have c2 : i < s.n := by omega
    have c3 : (i : Int) < t.n := by omega
    have c4 : i < t.n := by omega
    have w1 : IntKind.i64.wrap ((i : Int) + 1) = (i : Int) + 1 := i64_wrap (by omega)
    obtain ⟨u, k1, m1⟩ := ra.val i c
    obtain ⟨w, k2, m2⟩ := rb.val i (by omega)
    simp [c1, c2, c3, c4, sem_idxa ra.ok, sem_idxa rb.ok, k1, k2]
    refine sameBb_spec HB m1 m2 (hrow i c) ?_
    by_cases e : nthML a i = nthML b i
    · simp [e, w1]
      refine ⟨⟨i + 1, _, _, _, _, rfl, by omega, rfl, fun j hj => by by_cases q : j = i; (subst q; exact e); exact hall j (by omega)⟩, by simp [argI]; omega⟩
    · have : ¬ a = b := fun q => e (by rw [q])
      simp [this] at hr
      simp [e]
      exact hr
  · have c1 : ¬ (i : Int) < s.n := by omega
    have c2 : ¬ i < t.n := by omega
    have c3 : ¬ (i : Int) < t.n := by omega
    have : a = b := by
      apply List.ext_getElem (by omega)
      intro j h1 h2
      have := hall j (by omega)
      rw [nthML_eq h1, nthML_eq h2] at this
      exact this
    simp [this] at hr
    simp [c1, c2, c3]
    exact hr
def HwI (s : Sl) (n : Nat) (h0 : Heap) (e : List Value) (h' : Heap) : Prop :=
  ∃ (i : Nat) (v1 v4 v5 v6 v7 : Value), e = [s.v, v1, .int .i64 0, .int .i64 i, v4, v5, v6, v7] ∧ i ≤ n ∧ h' = h0
def HwJ (s : Sl) (i n : Nat) (h0 : Heap) (e : List Value) (h' : Heap) : Prop :=
  ∃ (j : Nat) (v1 v5 v6 v7 : Value), e = [s.v, v1, .int .i64 0, .int .i64 i, .int .i64 j, v5, v6, v7] ∧ j ≤ n ∧ h' = h0
/-- no marks are counted as none -/
theorem how_spec (H : Y.Has F.rref20_How S_rref20_How) {s : Sl} {a : List (List Bool)} (ra : RowLM h s a) (hbig : a.length ≤ 1000000) (hrow : ∀ i, i < a.length → (nthML a i).length ≤ 1000000) (hno : ∀ i, i < a.length → ∀ c, c < (nthML a i).length → nthM (nthML a i) c = false) {R : Value → Heap → Prop} (hr : R (.int .i64 0) h) :
    CallP Y F.rref20_How [s.v] h R := by
  have la := ra.len
  refine .of_has H rfl ?_
  simp [S_rref20_How, FnS.wp]
  refine wp_loop' (HwI s a.length h) (fun e _ => a.length - argI e 3) ⟨0, _, _, _, _, _, rfl, by omega, rfl⟩ ?_
  rintro e h2 ⟨i, v1, v4, v5, v6, v7, rfl, hi, rfl⟩
  by_cases c : i < a.length
  rotate_left
  · have c1 : ¬ (i : Int) < s.n := by omega
    simp [c1]
    exact hr
  have c1 : (i : Int) < s.n := by omega
  have c2 : i < s.n := by omega
  have w1 : IntKind.i64.wrap ((i : Int) + 1) = (i : Int) + 1 := i64_wrap (by omega)
  obtain ⟨u, k1, m1⟩ := ra.val i c
  have lm := m1.len
  have hrow := hrow i c
  have hno := hno i c
  simp [c1, c2]
  refine wp_loop' (HwJ s i (nthML a i).length h2) (fun e _ => (nthML a i).length - argI e 4) ⟨0, _, _, _, _, rfl, by omega, rfl⟩ ?_
  rintro e h3 ⟨j, v1, v5, v6, v7, rfl, hj, rfl⟩
  by_cases d : j < (nthML a i).length
  rotate_left
  · have d1 : ¬ (j : Int) < u.n := by omega
    simp [c1, c2, sem_idxa ra.ok, k1, d1, w1]
    exact ⟨⟨i + 1, _, _, _, _, _, rfl, by omega, rfl⟩, by simp [argI]; omega⟩
  have d1 : (j : Int) < u.n := by omega
  have d2 : j < u.n := by omega
  have wj : IntKind.i64.wrap ((j : Int) + 1) = (j : Int) + 1 := i64_wrap (by omega)
  simp [c1, c2, sem_idxa ra.ok, k1, d1, d2, sem_idxa m1.ok, m1.val j d, hno j d, wj]
  exact ⟨⟨j + 1, _, _, _, _, rfl, by omega, rfl⟩, by simp [argI]; omega⟩
end
end Go.Rm

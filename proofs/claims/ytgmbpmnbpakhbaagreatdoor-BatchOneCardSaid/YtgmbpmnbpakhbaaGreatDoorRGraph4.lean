import Derived.Test.YtgmbpmnbpakhbaaGreatDoorEngU
import Derived.Test.YtgmbpmnbpakhbaaGreatDoorRGraph3

/- Graphs: what they tell, Set, Bend, Net, Twin, New. -/
set_option linter.unusedSimpArgs false
set_option linter.unusedVariables false
namespace Go.Rm

abbrev wGraph : ByteArray := ⟨#[103, 114, 97, 112, 104]⟩
def fromV (N : NetD) (a : Int) : Int := if vtxB N.as.length a then (nthT N.as a.toNat).a else -1
def toV (N : NetD) (a : Int) : Int := if vtxB N.as.length a then (nthT N.as a.toNat).b else -1
def weightV (N : NetD) (a : Int) : Int := if vtxB N.as.length a then (nthT N.as a.toNat).c else InfI
/-- Set, Bend: why not; the net behind it -/
def setW (N : NetD) (a w : Int) : Wr := if vtxB N.as.length a = false then atW wGraph a 5 else if weightB w = false then atW wGraph a 8 else wOK
def setN (N : NetD) (a w : Int) : NetD := if (setW N a w).2 = 0 then { N with as := N.as.set a.toNat ⟨(nthT N.as a.toNat).a, (nthT N.as a.toNat).b, w⟩ } else N
def bendW (N : NetD) (t i k c : Int) : Wr := if vtxB N.ts.length t = false then atW wGraph t 5 else withinW wGraph t (withW (nthB N.ts t.toNat).i (nthB N.ts t.toNat).o (nthB N.ts t.toNat).cs i k c)
def bendT (t : Tab) (i k c : Int) : Tab := ⟨t.i, t.o, t.cs.set (i * t.o + k).toNat c⟩
def bendN (N : NetD) (t i k c : Int) : NetD := if (bendW N t i k c).2 = 0 then { N with ts := N.ts.set t.toNat (bendT (nthB N.ts t.toNat) i k c) } else N

section
variable {Y : Sys} {h : Heap} {p : Nat} {N : NetD} {S : Nat → Prop}

theorem garc_spec (H : Y.Has F.graph_Graph_arc S_graph_Graph_arc) (g : GraphA h p N S) {a : Int} {R : Value → Heap → Prop} (hr : R (.bool (vtxB N.as.length a)) h) : CallP Y F.graph_Graph_arc [.pointer (some ⟨p, 0, none⟩), .int .i64 a] h R := by
  obtain ⟨s1, s2, s3, si, so, sp, P, Q, g⟩ := g
  have la := g.netH.ra.len
  rw [la] at hr
  refine .of_has H rfl ?_
  by_cases c : 0 ≤ a
  · have : vtxB s2.n a = decide (a < s2.n) := by simp [vtxB, c]
    rw [this] at hr
    simp [S_graph_Graph_arc, FnS.wp, g.blk.hc, c]
    exact hr
  · have : vtxB s2.n a = false := by simp [vtxB, c]
    rw [this] at hr
    simp [S_graph_Graph_arc, FnS.wp, g.blk.hc, c]
    exact hr
theorem gverts_spec (H : Y.Has F.graph_Graph_Verts S_graph_Graph_Verts) (g : GraphA h p N S) {R : Value → Heap → Prop} (hr : R (.int .i64 N.vs.length) h) : CallP Y F.graph_Graph_Verts [.pointer (some ⟨p, 0, none⟩)] h R := by
  obtain ⟨s1, s2, s3, si, so, sp, P, Q, g⟩ := g
  rw [g.netH.rv.len] at hr
  refine .of_has H rfl ?_
  simp [S_graph_Graph_Verts, FnS.wp, g.blk.hc]
  exact hr
theorem garcs_spec (H : Y.Has F.graph_Graph_Arcs S_graph_Graph_Arcs) (g : GraphA h p N S) {R : Value → Heap → Prop} (hr : R (.int .i64 N.as.length) h) : CallP Y F.graph_Graph_Arcs [.pointer (some ⟨p, 0, none⟩)] h R := by
  obtain ⟨s1, s2, s3, si, so, sp, P, Q, g⟩ := g
  rw [g.netH.ra.len] at hr
  refine .of_has H rfl ?_
  simp [S_graph_Graph_Arcs, FnS.wp, g.blk.hc]
  exact hr

theorem gfrom_spec (H : Y.Has F.graph_Graph_From S_graph_Graph_From) (HA : Y.Has F.graph_Graph_arc S_graph_Graph_arc) (g : GraphA h p N S) {a : Int} {R : Value → Heap → Prop} (hr : R (.int .i64 (fromV N a)) h) : CallP Y F.graph_Graph_From [.pointer (some ⟨p, 0, none⟩), .int .i64 a] h R := by
  refine .of_has H rfl ?_
  simp [S_graph_Graph_From, FnS.wp]
  refine garc_spec HA g ?_
  cases c : vtxB N.as.length a with
  | false =>
    simp [fromV, c] at hr
    simp
    exact hr
  | true =>
    obtain ⟨s1, s2, s3, si, so, sp, P, Q, g⟩ := g
    have la := g.netH.ra.len
    simp [fromV, c] at hr
    simp only [vtxB, decide_eq_true_eq] at c
    have a1 : a < s2.n := by omega
    simp [g.blk.hc, sem_idxa g.netH.ra.ok, c.1, a1, g.netH.ra.v0 a.toNat (by omega)]
    exact hr
theorem gto_spec (H : Y.Has F.graph_Graph_To S_graph_Graph_To) (HA : Y.Has F.graph_Graph_arc S_graph_Graph_arc) (g : GraphA h p N S) {a : Int} {R : Value → Heap → Prop} (hr : R (.int .i64 (toV N a)) h) : CallP Y F.graph_Graph_To [.pointer (some ⟨p, 0, none⟩), .int .i64 a] h R := by
  refine .of_has H rfl ?_
  simp [S_graph_Graph_To, FnS.wp]
  refine garc_spec HA g ?_
  cases c : vtxB N.as.length a with
  | false =>
    simp [toV, c] at hr
    simp
    exact hr
  | true =>
    obtain ⟨s1, s2, s3, si, so, sp, P, Q, g⟩ := g
    have la := g.netH.ra.len
    simp [toV, c] at hr
    simp only [vtxB, decide_eq_true_eq] at c
    have a1 : a < s2.n := by omega
    simp [g.blk.hc, sem_idxa g.netH.ra.ok, c.1, a1, g.netH.ra.v1 a.toNat (by omega)]
    exact hr
theorem gweight_spec (H : Y.Has F.graph_Graph_Weight S_graph_Graph_Weight) (HA : Y.Has F.graph_Graph_arc S_graph_Graph_arc) (g : GraphA h p N S) {a : Int} {R : Value → Heap → Prop} (hr : R (.int .i64 (weightV N a)) h) : CallP Y F.graph_Graph_Weight [.pointer (some ⟨p, 0, none⟩), .int .i64 a] h R := by
  refine .of_has H rfl ?_
  simp [S_graph_Graph_Weight, FnS.wp]
  refine garc_spec HA g ?_
  cases c : vtxB N.as.length a with
  | false =>
    simp [weightV, c, InfI] at hr
    simp
    exact hr
  | true =>
    obtain ⟨s1, s2, s3, si, so, sp, P, Q, g⟩ := g
    have la := g.netH.ra.len
    simp [weightV, c] at hr
    simp only [vtxB, decide_eq_true_eq] at c
    have a1 : a < s2.n := by omega
    simp [g.blk.hc, sem_idxa g.netH.ra.ok, c.1, a1, g.netH.ra.v2 a.toNat (by omega)]
    exact hr
theorem GraphD.plc {s1 s2 s3 si so sp : Sl} {P : List (Tab × Sl)} {Q : Bool → Nat → Sl} (g : GraphD h p N S s1 s2 s3 si so sp P Q) {a : Nat} (ha : a < N.as.length) :
    hc h sp.b (sp.o + a * 2) = some (.int .i64 (cntB N.as a a : Nat)) ∧ hc h sp.b (sp.o + a * 2 + 1) = some (.int .i64 (cntA N.as a a : Nat)) := by
  obtain ⟨h1, h2⟩ := cells2_get (l := Rm.plc N.as N.as.length) (i := a) (by simpa using ha)
  rw [plc_at ha] at h1 h2
  exact ⟨g.op.cell h1, g.op.cell h2⟩
theorem GraphD.np {s1 s2 s3 si so sp : Sl} {P : List (Tab × Sl)} {Q : Bool → Nat → Sl} (g : GraphD h p N S s1 s2 s3 si so sp P Q) : sp.n = N.as.length := by
  have := g.op.1
  rw [cells2_len, plc_len] at this
  omega

theorem gturn_spec (H : Y.Has F.graph_Graph_Turn S_graph_Graph_Turn) (HA : Y.Has F.graph_Graph_arc S_graph_Graph_arc) (T : TurnFns Y) (g : GraphA h p N S) (ok : NetOK N) {a b : Int} {R : Value → Heap → Prop}
    (hr : ∀ h', Ext h h' → R (.int .i64 (turnV N a b)) h') : CallP Y F.graph_Graph_Turn [.pointer (some ⟨p, 0, none⟩), .int .i64 a, .int .i64 b] h R := by
  refine .of_has H rfl ?_
  simp [S_graph_Graph_Turn, FnS.wp]
  refine garc_spec HA g ?_
  cases c1 : vtxB N.as.length a with
  | false =>
    rw [turnV, if_pos (.inl c1)] at hr
    simp
    exact hr _ (Mod.refl h)
  | true =>
  simp
  refine garc_spec HA g ?_
  cases c2 : vtxB N.as.length b with
  | false =>
    rw [turnV, if_pos (.inr c2)] at hr
    simp
    exact hr _ (Mod.refl h)
  | true =>
  obtain ⟨s1, s2, s3, si, so, sp, P, Q, g⟩ := g
  have r := g.netH
  have lv := r.rv.len
  have la := r.ra.len
  have lt := r.rt.len
  have hn := g.np
  simp only [vtxB, decide_eq_true_eq] at c1 c2
  obtain ⟨a, rfl⟩ : ∃ n : Nat, a = n := ⟨a.toNat, by omega⟩
  obtain ⟨b, rfl⟩ : ∃ n : Nat, b = n := ⟨b.toNat, by omega⟩
  have ha : a < N.as.length := by omega
  have hb : b < N.as.length := by omega
  have ha' : (a : Int) < s2.n := by omega
  have hb' : (b : Int) < s2.n := by omega
  have hap : (a : Int) < sp.n := by omega
  have hbp : (b : Int) < sp.n := by omega
  rw [turnV_in ha hb] at hr
  have G := g.blk
  by_cases c3 : (nthT N.as a).b = (nthT N.as b).a
  rotate_left
  · have c3' : ((nthT N.as a).b = (nthT N.as b).a) = False := by simp [c3]
    rw [bendV] at hr
    simp only [Int.toNat_natCast] at hr
    rw [if_pos (.inl c3)] at hr
    simp [G.hc, sem_idxa r.ra.ok, ha', hb', r.ra.v0 b hb, r.ra.v1 a ha, c3']
    exact hr _ (Mod.refl h)
  have hx : bendV N a b (cntB N.as a a) (cntA N.as b b) = atV (nthB N.ts (nthT N.vs (nthT N.as a).b.toNat).c.toNat).i (nthB N.ts (nthT N.vs (nthT N.as a).b.toNat).c.toNat).o (nthB N.ts (nthT N.vs (nthT N.as a).b.toNat).c.toNat).cs (cntB N.as a a) (cntA N.as b b) := by
    have h1 := (ok.arcs a ha).2
    have hv : (nthT N.as a).b.toNat < N.vs.length := by simp only [vtxB, decide_eq_true_eq] at h1; omega
    have h2 := ok.vt _ hv
    rw [bendV]
    simp only [Int.toNat_natCast]
    rw [if_neg (by rw [h1]; simp [c3]), if_neg (by simp [h2])]
  rw [hx] at hr
  clear hx
  have g1 := (ok.arcs a ha).2
  have cA := r.ra.v1 a ha
  have cB := r.ra.v0 b hb
  generalize hv : (nthT N.as a).b = v at *
  have c3' : (v = (nthT N.as b).a) = True := by simp [c3]
  simp only [vtxB, decide_eq_true_eq] at g1
  have v0 : 0 ≤ v := g1.1
  have v1 : v < s1.n := by omega
  have v2 : v.toNat < N.vs.length := by omega
  have g2 := ok.vt _ v2
  have rdv := r.rv.rd v2
  generalize ht : (nthT N.vs v.toNat).c = t at *
  simp only [vtxB, decide_eq_true_eq] at g2
  have t0 : 0 ≤ t := g2.1
  have t1 : t < s3.n := by omega
  have t2 : t.toNat < N.ts.length := by omega
  obtain ⟨u, rdt, _, ru⟩ := r.rt.rd (i := t.toNat) t2
  obtain ⟨p1, _⟩ := g.plc ha
  obtain ⟨_, p2⟩ := g.plc hb
  simp [G.hc, sem_idxa r.ra.ok, sem_idxa r.rv.ok, ha', hb', cA, cB, c3', v0, v1, rdv]
  refine new_store (vs := #[.int .i64 (nthT N.vs v.toNat).a, .int .i64 (nthT N.vs v.toNat).b, .int .i64 t]) rfl rfl (by simp) ?_
  intro D hDp gD bDp eDp stD
  have k := fun (b' o : Nat) (x : Value) (hx : hc h b' o = some x) => eDp.hc hx (fun h => h)
  have G' := G.ext eDp
  have cA' := eDp.hc cA (fun h => h)
  have rdv' := eDp.rd rdv (fun h => h)
  simp [G'.hc, sem_idxa r.ra.ok, sem_idxa r.rv.ok, ha', hb', cA', v0, v1, rdv']
  refine stD _ ?_
  intro hD bD eD
  clear stD bDp eDp k G' cA' rdv'
  have G2 := G.ext eD
  have rdt2 := eD.rd rdt (fun h => h)
  have p1' := eD.hc p1 (fun h => h)
  have p2' := eD.hc p2 (fun h => h)
  simp [G2.hc, bD.hc, sem_idxa r.rt.ok, t0, t1, rdt2, sem_idxa g.op.ok, hap, hbp, p1', p2']
  refine at_spec T (ru.ext eD) ?_
  intro h2 e2
  simp
  exact hr _ (eD.trans e2)

theorem gfault_spec (H : Y.Has F.graph_fault S_graph_fault) {a c : Int} (hc : c ≠ 0) {R : Value → Heap → Prop} (hr : ∀ v h', Ext h h' → FErr Y h.size h' (atW wGraph a c) v → R v h') :
    CallP Y F.graph_fault [.int .i64 a, .iface (Y.tid Ty.api_Errno) (.int .i64 c)] h R := by
  refine .of_has H rfl ?_
  simp [S_graph_fault, FnS.wp]
  refine ef_new_box ?_
  intro b h1 g1 B e1
  simp
  exact hr _ _ e1 (fun h' m => fault_at (m.blk B (by omega)) hc)
theorem gfault2_spec (H : Y.Has F.graph_fault S_graph_fault) {a : Int} {w : Wr} {v : Value} {lo : Nat} (hlo : lo ≤ h.size) (hv : FErr Y lo h w v) (h0 : w.2 ≠ 0) {R : Value → Heap → Prop}
    (hr : ∀ v h', Ext h h' → FErr Y lo h' (withinW wGraph a w) v → R v h') :
    CallP Y F.graph_fault [.int .i64 a, v] h R := by
  obtain ⟨t, u, rfl⟩ := hv.here.iface h0
  refine .of_has H rfl ?_
  simp [S_graph_fault, FnS.wp]
  refine ef_new_box ?_
  intro b h1 g1 B e1
  simp
  refine hr _ _ e1 (fun h' m => ?_)
  have hb := m.blk B (by omega)
  have he := hv.ext e1 h' m
  rcases he with ⟨q, _⟩ | ⟨_, he⟩
  · exact absurd q h0
  · unfold withinW
    rw [if_neg h0]
    exact .inr ⟨h0, b, _, rfl, by rw [hb.hc]; rfl, by rw [hb.hc]; rfl, by rw [hb.hc]; rfl, he⟩

theorem fresh_ge {lo : Nat} {s : Sl} {cs : List Int} (f : Fresh lo (fun h => Row64 h s cs) h) (hne : cs ≠ []) : lo ≤ s.b := by
  rcases Nat.lt_or_ge s.b lo with q | q
  · have h0 := f.here.val 0 (List.length_pos_iff.2 hne)
    have h1 := (f (hset h s.b (s.o + 0) .nilIface) (Mod.set q)).val 0 (List.length_pos_iff.2 hne)
    rw [hc_hset h0] at h1
    cases h1
  · exact q

structure GrSet (Y : Sys) : Prop where
  arc : Y.Has F.graph_Graph_arc S_graph_Graph_arc
  Set : Y.Has F.graph_Graph_Set S_graph_Graph_Set
  fault : Y.Has F.graph_fault S_graph_fault
  W : Y.Has F.cost_Weight S_cost_Weight
structure GrBend (Y : Sys) : Prop where
  Bend : Y.Has F.graph_Graph_Bend S_graph_Graph_Bend
  fault : Y.Has F.graph_fault S_graph_fault
  With : Y.Has F.turn_With S_turn_With
  C64 : Y.Has F.slices_Clone_int64_int64 S_slices_Clone_int64_int64

theorem ioO_set {as : List Tri} {a : Nat} {w : Int} {x : Bool} {v : Nat} (ha : a < as.length) : ioO x (as.set a ⟨(nthT as a).a, (nthT as a).b, w⟩) v = ioO x as v := by
  have key : ∀ (p : Tri → Bool) (l : List Tri) (k a : Nat), a < l.length → p ⟨(nthT l a).a, (nthT l a).b, w⟩ = p (nthT l a) → idxF p k (l.set a ⟨(nthT l a).a, (nthT l a).b, w⟩) = idxF p k l := by
    intro p l
    induction l with
    | nil => intro k a ha; simp at ha
    | cons t r ih =>
      intro k a ha hp
      cases a with
      | zero =>
        have e : nthT (t :: r) 0 = t := by simp [nthT]
        rw [e] at hp ⊢
        rw [List.set_cons_zero, idxF, idxF, hp]
      | succ a =>
        have e : nthT (t :: r) (a + 1) = nthT r a := by simp [nthT]
        rw [e] at hp ⊢
        rw [List.set_cons_succ, idxF, idxF, ih (k + 1) a (by simpa using ha) hp]
  cases x
  · exact key _ _ _ _ ha rfl
  · exact key _ _ _ _ ha rfl
theorem nthT_set_ab {as : List Tri} {a j : Nat} {w : Int} (ha : a < as.length) : (nthT (as.set a ⟨(nthT as a).a, (nthT as a).b, w⟩) j).a = (nthT as j).a ∧ (nthT (as.set a ⟨(nthT as a).a, (nthT as a).b, w⟩) j).b = (nthT as j).b := by
  rw [nthT_set ha]
  split
  · rename_i e; rw [e]; exact ⟨rfl, rfl⟩
  · exact ⟨rfl, rfl⟩
theorem cnt_set {as : List Tri} {a : Nat} {w : Int} (ha : a < as.length) (j n : Nat) (hn : n ≤ as.length) : cntB (as.set a ⟨(nthT as a).a, (nthT as a).b, w⟩) j n = cntB as j n ∧ cntA (as.set a ⟨(nthT as a).a, (nthT as a).b, w⟩) j n = cntA as j n := by
  induction n with
  | zero => simp [cntB, cntA]
  | succ n ih =>
    obtain ⟨i1, i2⟩ := ih (by omega)
    rw [cntB_succ (by simp; omega), cntB_succ (by omega), cntA_succ (by simp; omega), cntA_succ (by omega), i1, i2, (nthT_set_ab ha).1, (nthT_set_ab ha).2, (nthT_set_ab ha).1, (nthT_set_ab ha).2]
    exact ⟨rfl, rfl⟩
theorem plc_set {as : List Tri} {a : Nat} {w : Int} (ha : a < as.length) : plc (as.set a ⟨(nthT as a).a, (nthT as a).b, w⟩) as.length = plc as as.length := by
  apply List.ext_getElem (by simp)
  intro j h1 h2
  have hj : j < as.length := by simpa using h2
  simp [plc, hj, (cnt_set (w := w) ha j j (by omega)).1, (cnt_set (w := w) ha j j (by omega)).2]

theorem gset_spec (G : GrSet Y) (g : GraphA h p N S) {a w : Int} {R : Value → Heap → Prop}
    (hr : ∀ v h', Mod S h h' → GraphA h' p (setN N a w) S → FErr Y h.size h' (setW N a w) v → R v h') : CallP Y F.graph_Graph_Set [.pointer (some ⟨p, 0, none⟩), .int .i64 a, .int .i64 w] h R := by
  refine .of_has G.Set rfl ?_
  simp [S_graph_Graph_Set, FnS.wp]
  refine garc_spec G.arc g ?_
  cases c1 : vtxB N.as.length a with
  | false =>
    simp
    refine gfault_spec G.fault (by omega) ?_
    intro v h1 e1 hv
    have hw : setW N a w = atW wGraph a 5 := by simp [setW, c1]
    have hn : setN N a w = N := by simp [setN, hw, atW]
    simp
    exact hr v h1 (e1.mono fun _ _ h => h.elim) (by rw [hn]; exact g.ext e1) (by rw [hw]; exact hv)
  | true =>
  simp
  refine weight_spec G.W ?_
  cases c2 : weightB w with
  | false =>
    simp
    refine gfault_spec G.fault (by omega) ?_
    intro v h1 e1 hv
    have hw : setW N a w = atW wGraph a 8 := by simp [setW, c1, c2]
    have hn : setN N a w = N := by simp [setN, hw, atW]
    simp
    exact hr v h1 (e1.mono fun _ _ h => h.elim) (by rw [hn]; exact g.ext e1) (by rw [hw]; exact hv)
  | true =>
  have hw : setW N a w = wOK := by simp [setW, c1, c2]
  have hn : setN N a w = { N with as := N.as.set a.toNat ⟨(nthT N.as a.toNat).a, (nthT N.as a.toNat).b, w⟩ } := by simp [setN, hw, wOK]
  obtain ⟨s1, s2, s3, si, so, sp, P, Q, g⟩ := g
  have la := g.netH.ra.len
  simp only [vtxB, decide_eq_true_eq] at c1
  obtain ⟨a, rfl⟩ : ∃ n : Nat, a = n := ⟨a.toNat, by omega⟩
  have ha : a < N.as.length := by omega
  have a1 : (a : Int) < s2.n := by omega
  simp [g.blk.hc, sem_idxa g.netH.ra.ok, a1]
  rw [Nat.add_assoc]
  refine stN g.o2 (k := a * 3 + 2) (by rw [cells3_len, List.length_map]; omega) ?_
  intro h1 o2 m1
  rw [(tri_set ha).2.2] at o2
  have hnl : s2.nl = false := by
    obtain ⟨arr, hb, _, hnl⟩ := g.o2.blk (i := 0) (by rw [cells3_len, List.length_map]; omega)
    exact hnl
  obtain ⟨e2S, e2n⟩ := g.e2 hnl
  simp
  refine hr _ h1 (m1.mono fun j _ hj => by rw [hj]; exact e2S) ?_ (by rw [hw]; exact FErr.ok)
  rw [hn]
  simp only [Int.toNat_natCast]
  have nr : ∀ b, gRest p s1 si so sp Q N.vs.length P b → b ≠ s2.b := fun b hb e => e2n (e ▸ hb)
  refine ⟨s1, s2, s3, si, so, sp, P, Q, ?_⟩
  exact { blk := m1.blk g.blk (nr _ (.inl rfl))
          o1 := g.o1.mod m1 fun hn => nr _ (.inr (.inl ⟨hn, rfl⟩))
          o2 := o2
          o3 := g.o3.mod m1 fun hn => (g.d23 hnl hn).symm
          hP := g.hP
          row := fun q hq => (g.row q hq).mod m1 fun hne => nr _ (.inr (.inr (.inr (.inr (.inr (.inr ⟨q, hq, hne, rfl⟩))))))
          oi := g.oi.mod m1 fun _ => nr _ (.inr (.inr (.inl rfl)))
          oo := g.oo.mod m1 fun _ => nr _ (.inr (.inr (.inr (.inl rfl))))
          op := by
            have := g.op.mod m1 fun _ => nr _ (.inr (.inr (.inr (.inr (.inl rfl)))))
            simp only [List.length_set]
            rw [plc_set ha]
            exact this
          oq := fun x v hv => by
            simp only
            rw [ioO_set ha]
            exact (g.oq x v hv).mod m1 fun hn => nr _ (.inr (.inr (.inr (.inr (.inr (.inl ⟨x, v, hv, hn, rfl⟩))))))
          inS := g.inS
          e2 := g.e2
          e3 := g.e3
          d23 := g.d23
          lt := fun b hb => Nat.lt_of_lt_of_le (g.lt b hb) m1.size }

theorem gbend_spec (G : GrBend Y) (T : TurnFns Y) (g : GraphA h p N S) {t i k c : Int} {R : Value → Heap → Prop}
    (hr : ∀ v h' (S' : Nat → Prop), Mod S h h' → (∀ b, S' b → S b ∨ h.size ≤ b) → (∀ b, S b → S' b) → GraphA h' p (bendN N t i k c) S' → FErr Y h.size h' (bendW N t i k c) v → R v h') :
    CallP Y F.graph_Graph_Bend [.pointer (some ⟨p, 0, none⟩), .int .i64 t, .int .i64 i, .int .i64 k, .int .i64 c] h R := by
  refine .of_has G.Bend rfl ?_
  have g0 := g
  obtain ⟨s1, s2, s3, si, so, sp, P, Q, g⟩ := g
  have lt := g.netH.rt.len
  have bad : vtxB N.ts.length t = false → ∀ K : Value → Heap → Prop, (∀ v h1, R v h1 → K v h1) → CallP Y F.graph_fault [.int .i64 t, .iface (Y.tid Ty.api_Errno) (.int .i64 5)] h K := by
    intro hb K hK
    refine gfault_spec G.fault (by omega) ?_
    intro v h1 e1 hv
    have hw : bendW N t i k c = atW wGraph t 5 := by simp [bendW, hb]
    have hn : bendN N t i k c = N := by simp [bendN, hw, atW]
    exact hK v h1 (hr v h1 S (e1.mono fun _ _ h => h.elim) (fun b hb => .inl hb) (fun b hb => hb) (by rw [hn]; exact g0.ext e1) (by rw [hw]; exact hv))
  by_cases c1 : t < 0
  · simp [S_graph_Graph_Bend, FnS.wp, c1]
    refine bad (by simp [vtxB]; omega) _ ?_
    intro v h1 h2
    simp
    exact h2
  by_cases c2 : (s3.n : Int) ≤ t
  · simp [S_graph_Graph_Bend, FnS.wp, c1, Int.not_lt.1 c1, g.blk.hc, c2]
    refine bad (by simp [vtxB]; omega) _ ?_
    intro v h1 h2
    simp
    exact h2
  obtain ⟨t, rfl⟩ : ∃ n : Nat, t = n := ⟨t.toNat, by omega⟩
  have ht : t < N.ts.length := by omega
  have t1 : (t : Int) < s3.n := by omega
  have hvt : vtxB N.ts.length t = true := by simp [vtxB]; omega
  obtain ⟨u, rdu, _, ru⟩ := g.netH.rt.rd (i := t) ht
  have c2' : ¬ s3.n ≤ t := by omega
  simp [S_graph_Graph_Bend, FnS.wp, g.blk.hc, c2', t1, sem_idxa g.netH.rt.ok, rdu, show t < s3.n by omega]
  refine with_spec G.With G.C64 T ru ?_
  intro h1 v e1 hv
  obtain ⟨i', o', s', cs', ue, rfl, her, hro, hcase⟩ := hv
  have hbw : bendW N t i k c = withinW wGraph t (withW (nthB N.ts t).i (nthB N.ts t).o (nthB N.ts t).cs i k c) := by simp [bendW, hvt]
  simp [tabV]
  refine new_store (vs := #[.int .i64 i', .int .i64 o', s'.v]) rfl rfl (by simp) ?_
  intro D hDp gD bDp eDp stD
  simp
  refine stD _ ?_
  intro hD bD eD
  clear stD bDp eDp
  have e2 := e1.trans eD
  have hro2 := hro.ext eD
  have her2 := her.ext eD
  rcases hcase with ⟨hz, rfl, rfl, rfl⟩ | ⟨hz, rfl, rfl, rfl, rfl⟩
  rotate_left
  · obtain ⟨te, uu, rfl⟩ := her2.here.iface hz
    simp
    refine gfault2_spec G.fault (lo := h.size) e2.size her2 hz ?_
    intro v h3 e3 hv
    have hw2 : (bendW N t i k c).2 ≠ 0 := by rw [hbw]; exact within_ne hz
    have hn : bendN N t i k c = N := by simp [bendN, hw2]
    simp
    exact hr v h3 S ((e2.trans e3).mono fun _ _ h => h.elim) (fun b hb => .inl hb) (fun b hb => hb) (by rw [hn]; exact g0.ext (e2.trans e3)) (by rw [hbw]; exact hv)
  have := her2.here.nil hz
  subst this
  have hwz : bendW N t i k c = wOK := by rw [hbw]; unfold withinW; rw [if_pos hz]
  have hn : bendN N t i k c = { N with ts := N.ts.set t (bendT (nthB N.ts t) i k c) } := by simp [bendN, hwz, wOK]
  have g2 := g.mod e2 (fun b hb h => h)
  simp [g2.blk.hc, rd_blk bD, sem_idxa g2.netH.rt.ok, t1]
  have hP : P.length = N.ts.length := by rw [← g.hP]; simp
  refine st3 g2.o3 (by simp; omega) rfl rfl (by simp) ?_
  intro h4 o4 m4
  have z2 := e2.size
  have z4 := m4.size
  have hnl : s3.nl = false := by
    obtain ⟨arr, hb, _, hnl⟩ := g.o3.blk (i := 0) (by rw [cells3_len, List.length_map]; omega)
    exact hnl
  obtain ⟨e3S, e3n⟩ := g.e3 hnl
  have nr : ∀ b, gRest p s1 si so sp Q N.vs.length P b → b ≠ s3.b := fun b hb e => e3n (e ▸ hb)
  have l3 := g.lt _ e3S
  have ro4 := hro2 h4 (m4.mono fun j _ hj => by omega)
  have fresh4 : (nthB N.ts t).cs.set (i * (nthB N.ts t).o + k).toNat c ≠ [] → h.size ≤ s'.b := fresh_ge hro2
  have htP : t < P.length := by omega
  have eP : (P.map tabP).set t (.int .i64 (nthB N.ts t).i, .int .i64 (nthB N.ts t).o, s'.v) = (P.set t (bendT (nthB N.ts t) i k c, s')).map tabP := by rw [List.map_set]; rfl
  rw [eP] at o4
  simp
  have hmem : ∀ q ∈ P.set t (bendT (nthB N.ts t) i k c, s'), q ∈ P ∨ q = (bendT (nthB N.ts t) i k c, s') := fun q hq => mem_set_or hq
  have rest' : ∀ b, gRest p s1 si so sp Q N.vs.length (P.set t (bendT (nthB N.ts t) i k c, s')) b → gRest p s1 si so sp Q N.vs.length P b ∨ (h.size ≤ b ∧ b < h4.size) := by
    intro b hb
    rcases hb with hb | hb | hb | hb | hb | hb | ⟨q, hq, hne, hb⟩
    · exact .inl (.inl hb)
    · exact .inl (.inr (.inl hb))
    · exact .inl (.inr (.inr (.inl hb)))
    · exact .inl (.inr (.inr (.inr (.inl hb))))
    · exact .inl (.inr (.inr (.inr (.inr (.inl hb)))))
    · exact .inl (.inr (.inr (.inr (.inr (.inr (.inl hb))))))
    · rcases hmem q hq with g' | g'
      · exact .inl (.inr (.inr (.inr (.inr (.inr (.inr ⟨q, g', hne, hb⟩))))))
      · subst g'
        right
        subst hb
        exact ⟨fresh4 hne, ro4.lt hne⟩
  refine hr _ h4 (fun b => S b ∨ (h.size ≤ b ∧ b < h4.size)) ?_ (fun b hb => hb.imp_right fun h => h.1) (fun b hb => .inl hb) ?_ (by rw [hwz]; exact FErr.ok)
  · exact (e2.mono fun _ _ h => h.elim).trans (m4.mono fun j _ hj => by rw [hj]; exact e3S)
  rw [hn]
  refine ⟨s1, s2, s3, si, so, sp, P.set t (bendT (nthB N.ts t) i k c, s'), Q, ?_⟩
  have lS := g.lt
  exact { blk := m4.blk g2.blk (nr _ (.inl rfl))
          o1 := g2.o1.mod m4 fun hn => nr _ (.inr (.inl ⟨hn, rfl⟩))
          o2 := g2.o2.mod m4 fun hn => g.d23 hn hnl
          o3 := o4
          hP := by rw [List.map_set, g.hP]
          row := fun q hq => by
            rcases hmem q hq with g' | g'
            · exact (g2.row q g').mod m4 fun hne => nr _ (.inr (.inr (.inr (.inr (.inr (.inr ⟨q, g', hne, rfl⟩))))))
            · subst g'
              exact ro4
          oi := g2.oi.mod m4 fun _ => nr _ (.inr (.inr (.inl rfl)))
          oo := g2.oo.mod m4 fun _ => nr _ (.inr (.inr (.inr (.inl rfl))))
          op := g2.op.mod m4 fun _ => nr _ (.inr (.inr (.inr (.inr (.inl rfl)))))
          oq := fun x v hv => (g2.oq x v hv).mod m4 fun hn => nr _ (.inr (.inr (.inr (.inr (.inr (.inl ⟨x, v, hv, hn, rfl⟩))))))
          inS := fun b hb => (rest' b hb).imp_left (g.inS b)
          e2 := fun hn => by
            obtain ⟨a1, a2⟩ := g.e2 hn
            refine ⟨.inl a1, fun hb => ?_⟩
            have := lS _ a1
            rcases rest' _ hb with q | q
            · exact a2 q
            · omega
          e3 := fun hn => by
            refine ⟨.inl e3S, fun hb => ?_⟩
            rcases rest' _ hb with q | q
            · exact e3n q
            · omega
          d23 := g.d23
          lt := fun b hb => by
            rcases hb with q | q
            · have := lS b q; omega
            · exact q.2 }

structure GrNew (Y : Sys) : Prop where
  New : Y.Has F.graph_New S_graph_New
  build : Y.Has F.graph_build S_graph_build
  Cl : GrCl Y
  N1 : NetFns Y

theorem NetOK.small {N : NetD} (ok : NetOK N) : NetSmall N := by
  refine ⟨by have := ok.bv; omega, by have := ok.ba; omega, by have := ok.bt; omega, fun i hi => ?_⟩
  obtain ⟨a1, a2, a3, a4, a5, _, _⟩ := tab_ok (ins := (nthB N.ts i).i) (outs := (nthB N.ts i).o) (cs := (nthB N.ts i).cs) (ok.tab i hi)
  have := (mul_wrap ⟨a1, a2⟩ ⟨a3, a4⟩).2
  omega

/-- New: a graph, or why there is none -/
theorem gnew_spec (G : GrNew Y) (T : TurnCk Y) {sv sa st : Sl} (r : NetH h sv sa st N) {R : Value → Heap → Prop}
    (hbad : ∀ v h', Ext h h' → (netW N).2 ≠ 0 → FErr Y h.size h' (netW N) v → R (.tuple #[.pointer none, v]) h')
    (hgood : ∀ h' p (S : Nat → Prop), Ext h h' → (netW N).2 = 0 → GraphA h' p N S → (∀ b, S b → h.size ≤ b) → R (.tuple #[.pointer (some ⟨p, 0, none⟩), .nilIface]) h') : CallP Y F.graph_New [netV sv sa st] h R := by
  refine .of_has G.New rfl ?_
  simp [S_graph_New, FnS.wp, netV]
  refine ef_new_box ?_
  intro B hB gB bB eB
  have cB : ∀ g, Ext g h → Ext g hB := fun g e => Mod.trans e eB
  simp (config := { maxDischargeDepth := 60 }) [cB, bB.sk, bB.rk]
  refine ncheck_spec G.N1 T (r.ext eB) ?_
  intro v h1 e1 hv
  have c_h1 : ∀ g, Ext g hB → Ext g h1 := fun g e => Mod.trans e e1
  have x1 := eB.trans e1
  have zB := eB.size
  by_cases c : (netW N).2 = 0
  rotate_left
  · obtain ⟨t, u, rfl⟩ := hv.here.iface c
    simp
    exact hbad _ h1 x1 c (hv.mono zB)
  have := hv.here.nil c
  subst this
  have ok := netOK_iff.1 c
  simp (config := { maxDischargeDepth := 60 }) [cB, bB.sk, bB.rk, c_h1]
  refine gclone_spec G.Cl (r.ext x1) ok.small ?_
  intro h2 s1 s2 s3 P e2 no
  have z1 := x1.size
  have z2 := e2.size
  simp
  refine build_spec G.build (lo := h1.size) no z2 ok.small ok.arcs ?_
  intro h3 p S e3 g hS
  simp
  exact hgood h3 p S ((x1.trans e2).trans e3) c g (fun b hb => by have := hS b hb; omega)

/-- Net: the net as it is now, in memory of its own -/
theorem gnet_spec (H : Y.Has F.graph_Graph_Net S_graph_Graph_Net) (C : GrCl Y) (g : GraphA h p N S) (bs : NetSmall N) {R : Value → Heap → Prop}
    (hr : ∀ h' s1 s2 s3, Ext h h' → (∀ h'', Mod (fun j => j < h.size) h' h'' → NetH h'' s1 s2 s3 N) → R (netV s1 s2 s3) h') : CallP Y F.graph_Graph_Net [.pointer (some ⟨p, 0, none⟩)] h R := by
  obtain ⟨s1, s2, s3, si, so, sp, P, Q, g⟩ := g
  refine .of_has H rfl ?_
  simp [S_graph_Graph_Net, FnS.wp]
  refine ef_new_box ?_
  intro B hB gB bB eB
  have cB : ∀ g, Ext g h → Ext g hB := fun g e => Mod.trans e eB
  have gB' := g.mod eB (fun b hb h => h)
  have hrd : rd hB p 0 3 = some [s1.v, s2.v, s3.v] := by
    have := rd_of (h := hB) (b := p) (l := [s1.v, s2.v, s3.v]) (o := 0) fun i v hi => by
      rw [gB'.blk.hc]
      match i with
      | 0 => simp at hi; subst hi; rfl
      | 1 => simp at hi; subst hi; rfl
      | 2 => simp at hi; subst hi; rfl
      | i + 3 => simp at hi
    exact this
  simp [hrd]
  refine gclone_spec C gB'.netH bs ?_
  intro h2 t1 t2 t3 P' e2 no
  have zB := eB.size
  have lB := bB.lt
  have z2 := e2.size
  simp [netV]
  refine ef_store_box (bB.ext e2) rfl rfl (by simp) ?_
  intro h3 b3 m3
  simp
  refine resP_x rfl b3 rfl ?_
  refine hr h3 t1 t2 t3 (Mod.ext (eB.trans e2) m3 (fun j hj => by omega)) (fun h'' m => ?_)
  exact ((no.mod m3 (fun b hb => by omega)).mod m (fun b hb => by omega)).netH

end
end Go.Rm

import Derived.Test.YtegflpgpkbffkaaEngU
import Derived.Test.YtegflpgpkbffkaaRGraph3

/- Graphs: what they tell, Set, Bend, Net, Twin, New. -/
set_option linter.unusedSimpArgs false
set_option linter.unusedVariables false
namespace Go.Rm

abbrev wGraph : ByteArray := ⟨#[103, 114, 97, 112, 104]⟩
def fromV (N : NetD) (a : Int) : Int := if vtxB N.as.length a then (nthT N.as a.toNat).a else -1
def toV (N : NetD) (a : Int) : Int := if vtxB N.as.length a then (nthT N.as a.toNat).b else -1
def weightV (N : NetD) (a : Int) : Int := if vtxB N.as.length a then (nthT N.as a.toNat).c else InfI
/-- Set, Bend: why not; the net behind it -/
def setW (N : NetD) (a w : Int) : Wr := if vtxB N.as.length a = false then atW wGraph a 5 else if weightB w = false then atW wGraph a 8 else wOK
def setN (N : NetD) (a w : Int) : NetD := if (setW N a w).2 = 0 then { N with as := N.as.set a.toNat ⟨(nthT N.as a.toNat).a, (nthT N.as a.toNat).b, w⟩ } else N
section
variable {Y : Sys} {h : Heap} {p : Nat} {N : NetD} {S : Nat → Prop}

theorem garc_spec (H : Y.Has F.graph_Graph_arc S_graph_Graph_arc) (g : GraphA h p N S) {a : Int} {R : Value → Heap → Prop} (hr : R (.bool (vtxB N.as.length a)) h) : CallP Y F.graph_Graph_arc [.pointer (some ⟨p, 0, none⟩), .int .i64 a] h R := by
  obtain ⟨s1, s2, s3, si, so, sp, P, Q, g⟩ := g
  have la := g.netH.ra.len
  rw [la] at hr
  refine .of_has H rfl ?_
  by_cases c : 0 ≤ a
  · have : vtxB s2.n a = decide (a < s2.n) := by simp [vtxB, c]
    rw [this] at hr
    simp [S_graph_Graph_arc, FnS.wp, g.blk.hc, c]
    exact hr
  · have : vtxB s2.n a = false := by simp [vtxB, c]
    rw [this] at hr
    simp [S_graph_Graph_arc, FnS.wp, g.blk.hc, c]
    exact hr
theorem gvert_spec (H : Y.Has F.graph_Graph_vert S_graph_Graph_vert) (g : GraphA h p N S) {a : Int} {R : Value → Heap → Prop} (hr : R (.bool (vtxB N.vs.length a)) h) : CallP Y F.graph_Graph_vert [.pointer (some ⟨p, 0, none⟩), .int .i64 a] h R := by
  obtain ⟨s1, s2, s3, si, so, sp, P, Q, g⟩ := g
  have la := g.netH.rv.len
  rw [la] at hr
  refine .of_has H rfl ?_
  by_cases c : 0 ≤ a
  · have : vtxB s1.n a = decide (a < s1.n) := by simp [vtxB, c]
    rw [this] at hr
    simp [S_graph_Graph_vert, FnS.wp, g.blk.hc, c]
    exact hr
  · have : vtxB s1.n a = false := by simp [vtxB, c]
    rw [this] at hr
    simp [S_graph_Graph_vert, FnS.wp, g.blk.hc, c]
    exact hr
theorem garcs_spec (H : Y.Has F.graph_Graph_Arcs S_graph_Graph_Arcs) (g : GraphA h p N S) {R : Value → Heap → Prop} (hr : R (.int .i64 N.as.length) h) : CallP Y F.graph_Graph_Arcs [.pointer (some ⟨p, 0, none⟩)] h R := by
  obtain ⟨s1, s2, s3, si, so, sp, P, Q, g⟩ := g
  rw [g.netH.ra.len] at hr
  refine .of_has H rfl ?_
  simp [S_graph_Graph_Arcs, FnS.wp, g.blk.hc]
  exact hr

theorem gfrom_spec (H : Y.Has F.graph_Graph_From S_graph_Graph_From) (HA : Y.Has F.graph_Graph_arc S_graph_Graph_arc) (g : GraphA h p N S) {a : Int} {R : Value → Heap → Prop} (hr : R (.int .i64 (fromV N a)) h) : CallP Y F.graph_Graph_From [.pointer (some ⟨p, 0, none⟩), .int .i64 a] h R := by
  refine .of_has H rfl ?_
  simp [S_graph_Graph_From, FnS.wp]
  refine garc_spec HA g ?_
  cases c : vtxB N.as.length a with
  | false =>
    simp [fromV, c] at hr
    simp
    exact hr
  | true =>
    obtain ⟨s1, s2, s3, si, so, sp, P, Q, g⟩ := g
    have la := g.netH.ra.len
    simp [fromV, c] at hr
    simp only [vtxB, decide_eq_true_eq] at c
    have a1 : a < s2.n := by omega
    simp [g.blk.hc, sem_idxa g.netH.ra.ok, c.1, a1, g.netH.ra.v0 a.toNat (by omega)]
    exact hr
theorem gto_spec (H : Y.Has F.graph_Graph_To S_graph_Graph_To) (HA : Y.Has F.graph_Graph_arc S_graph_Graph_arc) (g : GraphA h p N S) {a : Int} {R : Value → Heap → Prop} (hr : R (.int .i64 (toV N a)) h) : CallP Y F.graph_Graph_To [.pointer (some ⟨p, 0, none⟩), .int .i64 a] h R := by
  refine .of_has H rfl ?_
  simp [S_graph_Graph_To, FnS.wp]
  refine garc_spec HA g ?_
  cases c : vtxB N.as.length a with
  | false =>
    simp [toV, c] at hr
    simp
    exact hr
  | true =>
    obtain ⟨s1, s2, s3, si, so, sp, P, Q, g⟩ := g
    have la := g.netH.ra.len
    simp [toV, c] at hr
    simp only [vtxB, decide_eq_true_eq] at c
    have a1 : a < s2.n := by omega
    simp [g.blk.hc, sem_idxa g.netH.ra.ok, c.1, a1, g.netH.ra.v1 a.toNat (by omega)]
    exact hr
theorem gweight_spec (H : Y.Has F.graph_Graph_Weight S_graph_Graph_Weight) (HA : Y.Has F.graph_Graph_arc S_graph_Graph_arc) (g : GraphA h p N S) {a : Int} {R : Value → Heap → Prop} (hr : R (.int .i64 (weightV N a)) h) : CallP Y F.graph_Graph_Weight [.pointer (some ⟨p, 0, none⟩), .int .i64 a] h R := by
  refine .of_has H rfl ?_
  simp [S_graph_Graph_Weight, FnS.wp]
  refine garc_spec HA g ?_
  cases c : vtxB N.as.length a with
  | false =>
    simp [weightV, c, InfI] at hr
    simp
    exact hr
  | true =>
    obtain ⟨s1, s2, s3, si, so, sp, P, Q, g⟩ := g
    have la := g.netH.ra.len
    simp [weightV, c] at hr
    simp only [vtxB, decide_eq_true_eq] at c
    have a1 : a < s2.n := by omega
    simp [g.blk.hc, sem_idxa g.netH.ra.ok, c.1, a1, g.netH.ra.v2 a.toNat (by omega)]
    exact hr
theorem gouts_spec (H : Y.Has F.graph_Graph_Outs S_graph_Graph_Outs) (HV : Y.Has F.graph_Graph_vert S_graph_Graph_vert) (HC : Y.Has F.slices_Clone_int_int S_slices_Clone_int_int) (g : GraphA h p N S) (ba : N.as.length ≤ 20000) {v : Int} {R : Value → Heap → Prop}
    (hr : ∀ h' s, Ext h h' → Own h' 1 s (ints64 (if vtxB N.vs.length v then outsO N.as v else [])) → (s.nl = false → h.size ≤ s.b) → R s.v h') : CallP Y F.graph_Graph_Outs [.pointer (some ⟨p, 0, none⟩), .int .i64 v] h R := by
  refine .of_has H rfl ?_
  simp [S_graph_Graph_Outs, FnS.wp]
  refine gvert_spec HV g ?_
  cases c : vtxB N.vs.length v with
  | false =>
    simp [c] at hr
    simp
    exact hr h Sl.nil (Mod.refl h) Own.nil (fun h => (by cases h))
  | true =>
    obtain ⟨s1, s2, s3, si, so, sp, P, Q, g⟩ := g
    simp [c] at hr
    simp only [vtxB, decide_eq_true_eq] at c
    have no1 : so.n = N.vs.length := by have := g.oo.1; simp at this; omega
    have vv : v.toNat < N.vs.length := by omega
    have v1 : v < so.n := by omega
    have hq := g.oq true v.toNat vv
    have hv : ((v.toNat : Nat) : Int) = v := by omega
    have hn := hq.1
    rw [ints64_len, ioO, if_pos rfl, hv] at hn
    have := outsO_len (as := N.as) (v := v)
    simp [g.blk.hc, sem_idxa g.oo.ok, c.1, v1, g.oo.cell (rowQ_get vv)]
    refine cloneI_spec HC hq.row64 (by omega) ?_
    intro h1 s e1 o1 f1
    simp only [ioO, if_true, hv] at o1
    simp
    exact hr h1 s e1 o1 f1
theorem gins_spec (H : Y.Has F.graph_Graph_Ins S_graph_Graph_Ins) (HV : Y.Has F.graph_Graph_vert S_graph_Graph_vert) (HC : Y.Has F.slices_Clone_int_int S_slices_Clone_int_int) (g : GraphA h p N S) (ba : N.as.length ≤ 20000) {v : Int} {R : Value → Heap → Prop}
    (hr : ∀ h' s, Ext h h' → Own h' 1 s (ints64 (if vtxB N.vs.length v then insO N.as v else [])) → (s.nl = false → h.size ≤ s.b) → R s.v h') : CallP Y F.graph_Graph_Ins [.pointer (some ⟨p, 0, none⟩), .int .i64 v] h R := by
  refine .of_has H rfl ?_
  simp [S_graph_Graph_Ins, FnS.wp]
  refine gvert_spec HV g ?_
  cases c : vtxB N.vs.length v with
  | false =>
    simp [c] at hr
    simp
    exact hr h Sl.nil (Mod.refl h) Own.nil (fun h => (by cases h))
  | true =>
    obtain ⟨s1, s2, s3, si, so, sp, P, Q, g⟩ := g
    simp [c] at hr
    simp only [vtxB, decide_eq_true_eq] at c
    have no1 : si.n = N.vs.length := by have := g.oi.1; simp at this; omega
    have vv : v.toNat < N.vs.length := by omega
    have v1 : v < si.n := by omega
    have hq := g.oq false v.toNat vv
    have hv : ((v.toNat : Nat) : Int) = v := by omega
    have hn := hq.1
    rw [ints64_len, ioO, if_neg (by simp), hv] at hn
    have := insO_len (as := N.as) (v := v)
    simp [g.blk.hc, sem_idxa g.oi.ok, c.1, v1, g.oi.cell (rowQ_get vv)]
    refine cloneI_spec HC hq.row64 (by omega) ?_
    intro h1 s e1 o1 f1
    simp only [ioO, if_false, Bool.false_eq_true, hv] at o1
    simp
    exact hr h1 s e1 o1 f1

theorem GraphD.plc {s1 s2 s3 si so sp : Sl} {P : List (Tab × Sl)} {Q : Bool → Nat → Sl} (g : GraphD h p N S s1 s2 s3 si so sp P Q) {a : Nat} (ha : a < N.as.length) :
    hc h sp.b (sp.o + a * 2) = some (.int .i64 (cntB N.as a a : Nat)) ∧ hc h sp.b (sp.o + a * 2 + 1) = some (.int .i64 (cntA N.as a a : Nat)) := by
  obtain ⟨h1, h2⟩ := cells2_get (l := Rm.plc N.as N.as.length) (i := a) (by simpa using ha)
  rw [plc_at ha] at h1 h2
  exact ⟨g.op.cell h1, g.op.cell h2⟩
theorem GraphD.np {s1 s2 s3 si so sp : Sl} {P : List (Tab × Sl)} {Q : Bool → Nat → Sl} (g : GraphD h p N S s1 s2 s3 si so sp P Q) : sp.n = N.as.length := by
  have := g.op.1
  rw [cells2_len, plc_len] at this
  omega

theorem gturn_spec (H : Y.Has F.graph_Graph_Turn S_graph_Graph_Turn) (HA : Y.Has F.graph_Graph_arc S_graph_Graph_arc) (T : TurnFns Y) (g : GraphA h p N S) (ok : NetOK N) {a b : Int} {R : Value → Heap → Prop}
    (hr : ∀ h', Ext h h' → R (.int .i64 (turnV N a b)) h') : CallP Y F.graph_Graph_Turn [.pointer (some ⟨p, 0, none⟩), .int .i64 a, .int .i64 b] h R := by
  refine .of_has H rfl ?_
  simp [S_graph_Graph_Turn, FnS.wp]
  refine garc_spec HA g ?_
  cases c1 : vtxB N.as.length a with
  | false =>
    rw [turnV, if_pos (.inl c1)] at hr
    simp
    exact hr _ (Mod.refl h)
  | true =>
  simp
  refine garc_spec HA g ?_
  cases c2 : vtxB N.as.length b with
  | false =>
    rw [turnV, if_pos (.inr c2)] at hr
    simp
    exact hr _ (Mod.refl h)
  | true =>
  obtain ⟨s1, s2, s3, si, so, sp, P, Q, g⟩ := g
  have r := g.netH
  have lv := r.rv.len
  have la := r.ra.len
  have lt := r.rt.len
  have hn := g.np
  simp only [vtxB, decide_eq_true_eq] at c1 c2
  obtain ⟨a, rfl⟩ : ∃ n : Nat, a = n := ⟨a.toNat, by omega⟩
  obtain ⟨b, rfl⟩ : ∃ n : Nat, b = n := ⟨b.toNat, by omega⟩
  have ha : a < N.as.length := by omega
  have hb : b < N.as.length := by omega
  have ha' : (a : Int) < s2.n := by omega
  have hb' : (b : Int) < s2.n := by omega
  have hap : (a : Int) < sp.n := by omega
  have hbp : (b : Int) < sp.n := by omega
  rw [turnV_in ha hb] at hr
  have G := g.blk
  by_cases c3 : (nthT N.as a).b = (nthT N.as b).a
  rotate_left
  · have c3' : ((nthT N.as a).b = (nthT N.as b).a) = False := by simp [c3]
    rw [bendV] at hr
    simp only [Int.toNat_natCast] at hr
    rw [if_pos (.inl c3)] at hr
    simp [G.hc, sem_idxa r.ra.ok, ha', hb', r.ra.v0 b hb, r.ra.v1 a ha, c3']
    exact hr _ (Mod.refl h)
  have hx : bendV N a b (cntB N.as a a) (cntA N.as b b) = atV (nthB N.ts (nthT N.vs (nthT N.as a).b.toNat).c.toNat).i (nthB N.ts (nthT N.vs (nthT N.as a).b.toNat).c.toNat).o (nthB N.ts (nthT N.vs (nthT N.as a).b.toNat).c.toNat).cs (cntB N.as a a) (cntA N.as b b) := by
    have h1 := (ok.arcs a ha).2
    have hv : (nthT N.as a).b.toNat < N.vs.length := by simp only [vtxB, decide_eq_true_eq] at h1; omega
    have h2 := ok.vt _ hv
    rw [bendV]
    simp only [Int.toNat_natCast]
    rw [if_neg (by rw [h1]; simp [c3]), if_neg (by simp [h2])]
  rw [hx] at hr
  clear hx
  have g1 := (ok.arcs a ha).2
  have cA := r.ra.v1 a ha
  have cB := r.ra.v0 b hb
  generalize hv : (nthT N.as a).b = v at *
  have c3' : (v = (nthT N.as b).a) = True := by simp [c3]
  simp only [vtxB, decide_eq_true_eq] at g1
  have v0 : 0 ≤ v := g1.1
  have v1 : v < s1.n := by omega
  have v2 : v.toNat < N.vs.length := by omega
  have g2 := ok.vt _ v2
  have rdv := r.rv.rd v2
  generalize ht : (nthT N.vs v.toNat).c = t at *
  simp only [vtxB, decide_eq_true_eq] at g2
  have t0 : 0 ≤ t := g2.1
  have t1 : t < s3.n := by omega
  have t2 : t.toNat < N.ts.length := by omega
  obtain ⟨u, rdt, _, ru⟩ := r.rt.rd (i := t.toNat) t2
  obtain ⟨p1, _⟩ := g.plc ha
  obtain ⟨_, p2⟩ := g.plc hb
  simp [G.hc, sem_idxa r.ra.ok, sem_idxa r.rv.ok, ha', hb', cA, cB, c3', v0, v1, rdv]
  refine new_store (vs := #[.int .i64 (nthT N.vs v.toNat).a, .int .i64 (nthT N.vs v.toNat).b, .int .i64 t]) rfl rfl (by simp) ?_
  intro D hDp gD bDp eDp stD
  have k := fun (b' o : Nat) (x : Value) (hx : hc h b' o = some x) => eDp.hc hx (fun h => h)
  have G' := G.ext eDp
  have cA' := eDp.hc cA (fun h => h)
  have rdv' := eDp.rd rdv (fun h => h)
  simp [G'.hc, sem_idxa r.ra.ok, sem_idxa r.rv.ok, ha', hb', cA', v0, v1, rdv']
  refine stD _ ?_
  intro hD bD eD
  clear stD bDp eDp k G' cA' rdv'
  have G2 := G.ext eD
  have rdt2 := eD.rd rdt (fun h => h)
  have p1' := eD.hc p1 (fun h => h)
  have p2' := eD.hc p2 (fun h => h)
  simp [G2.hc, bD.hc, sem_idxa r.rt.ok, t0, t1, rdt2, sem_idxa g.op.ok, hap, hbp, p1', p2']
  refine at_spec T (ru.ext eD) ?_
  intro h2 e2
  simp
  exact hr _ (eD.trans e2)

theorem gfault_spec (H : Y.Has F.graph_fault S_graph_fault) {a c : Int} (hc : c ≠ 0) {R : Value → Heap → Prop} (hr : ∀ v h', Ext h h' → FErr Y h.size h' (atW wGraph a c) v → R v h') :
    CallP Y F.graph_fault [.int .i64 a, .iface (Y.tid Ty.api_Errno) (.int .i64 c)] h R := by
  refine .of_has H rfl ?_
  simp [S_graph_fault, FnS.wp]
  refine ef_new_box ?_
  intro b h1 g1 B e1
  simp
  exact hr _ _ e1 (fun h' m => fault_at (m.blk B (by omega)) hc)
structure GrSet (Y : Sys) : Prop where
  arc : Y.Has F.graph_Graph_arc S_graph_Graph_arc
  Set : Y.Has F.graph_Graph_Set S_graph_Graph_Set
  fault : Y.Has F.graph_fault S_graph_fault
  W : Y.Has F.cost_Weight S_cost_Weight
theorem ioO_set {as : List Tri} {a : Nat} {w : Int} {x : Bool} {v : Nat} (ha : a < as.length) : ioO x (as.set a ⟨(nthT as a).a, (nthT as a).b, w⟩) v = ioO x as v := by
  have key : ∀ (p : Tri → Bool) (l : List Tri) (k a : Nat), a < l.length → p ⟨(nthT l a).a, (nthT l a).b, w⟩ = p (nthT l a) → idxF p k (l.set a ⟨(nthT l a).a, (nthT l a).b, w⟩) = idxF p k l := by
    intro p l
    induction l with
    | nil => intro k a ha; simp at ha
    | cons t r ih =>
      intro k a ha hp
      cases a with
      | zero =>
        have e : nthT (t :: r) 0 = t := by simp [nthT]
        rw [e] at hp ⊢
        rw [List.set_cons_zero, idxF, idxF, hp]
      | succ a =>
        have e : nthT (t :: r) (a + 1) = nthT r a := by simp [nthT]
        rw [e] at hp ⊢
        rw [List.set_cons_succ, idxF, idxF, ih (k + 1) a (by simpa using ha) hp]
  cases x
  · exact key _ _ _ _ ha rfl
  · exact key _ _ _ _ ha rfl
theorem nthT_set_ab {as : List Tri} {a j : Nat} {w : Int} (ha : a < as.length) : (nthT (as.set a ⟨(nthT as a).a, (nthT as a).b, w⟩) j).a = (nthT as j).a ∧ (nthT (as.set a ⟨(nthT as a).a, (nthT as a).b, w⟩) j).b = (nthT as j).b := by
  rw [nthT_set ha]
  split
  · rename_i e; rw [e]; exact ⟨rfl, rfl⟩
  · exact ⟨rfl, rfl⟩
theorem cnt_set {as : List Tri} {a : Nat} {w : Int} (ha : a < as.length) (j n : Nat) (hn : n ≤ as.length) : cntB (as.set a ⟨(nthT as a).a, (nthT as a).b, w⟩) j n = cntB as j n ∧ cntA (as.set a ⟨(nthT as a).a, (nthT as a).b, w⟩) j n = cntA as j n := by
  induction n with
  | zero => simp [cntB, cntA]
  | succ n ih =>
    obtain ⟨i1, i2⟩ := ih (by omega)
    rw [cntB_succ (by simp; omega), cntB_succ (by omega), cntA_succ (by simp; omega), cntA_succ (by omega), i1, i2, (nthT_set_ab ha).1, (nthT_set_ab ha).2, (nthT_set_ab ha).1, (nthT_set_ab ha).2]
    exact ⟨rfl, rfl⟩
theorem plc_set {as : List Tri} {a : Nat} {w : Int} (ha : a < as.length) : plc (as.set a ⟨(nthT as a).a, (nthT as a).b, w⟩) as.length = plc as as.length := by
  apply List.ext_getElem (by simp)
  intro j h1 h2
  have hj : j < as.length := by simpa using h2
  simp [plc, hj, (cnt_set (w := w) ha j j (by omega)).1, (cnt_set (w := w) ha j j (by omega)).2]

theorem gset_spec (G : GrSet Y) (g : GraphA h p N S) {a w : Int} {R : Value → Heap → Prop}
    (hr : ∀ v h', Mod S h h' → GraphA h' p (setN N a w) S → FErr Y h.size h' (setW N a w) v → R v h') : CallP Y F.graph_Graph_Set [.pointer (some ⟨p, 0, none⟩), .int .i64 a, .int .i64 w] h R := by
  refine .of_has G.Set rfl ?_
  simp [S_graph_Graph_Set, FnS.wp]
  refine garc_spec G.arc g ?_
  cases c1 : vtxB N.as.length a with
  | false =>
    simp
    refine gfault_spec G.fault (by omega) ?_
    intro v h1 e1 hv
    have hw : setW N a w = atW wGraph a 5 := by simp [setW, c1]
    have hn : setN N a w = N := by simp [setN, hw, atW]
    simp
    exact hr v h1 (e1.mono fun _ _ h => h.elim) (by rw [hn]; exact g.ext e1) (by rw [hw]; exact hv)
  | true =>
  simp
  refine weight_spec G.W ?_
  cases c2 : weightB w with
  | false =>
    simp
    refine gfault_spec G.fault (by omega) ?_
    intro v h1 e1 hv
    have hw : setW N a w = atW wGraph a 8 := by simp [setW, c1, c2]
    have hn : setN N a w = N := by simp [setN, hw, atW]
    simp
    exact hr v h1 (e1.mono fun _ _ h => h.elim) (by rw [hn]; exact g.ext e1) (by rw [hw]; exact hv)
  | true =>
  have hw : setW N a w = wOK := by simp [setW, c1, c2]
  have hn : setN N a w = { N with as := N.as.set a.toNat ⟨(nthT N.as a.toNat).a, (nthT N.as a.toNat).b, w⟩ } := by simp [setN, hw, wOK]
  obtain ⟨s1, s2, s3, si, so, sp, P, Q, g⟩ := g
  have la := g.netH.ra.len
  simp only [vtxB, decide_eq_true_eq] at c1
  obtain ⟨a, rfl⟩ : ∃ n : Nat, a = n := ⟨a.toNat, by omega⟩
  have ha : a < N.as.length := by omega
  have a1 : (a : Int) < s2.n := by omega
  simp [g.blk.hc, sem_idxa g.netH.ra.ok, a1]
  rw [Nat.add_assoc]
  refine stN g.o2 (k := a * 3 + 2) (by rw [cells3_len, List.length_map]; omega) ?_
  intro h1 o2 m1
  rw [(tri_set ha).2.2] at o2
  have hnl : s2.nl = false := by
    obtain ⟨arr, hb, _, hnl⟩ := g.o2.blk (i := 0) (by rw [cells3_len, List.length_map]; omega)
    exact hnl
  obtain ⟨e2S, e2n⟩ := g.e2 hnl
  simp
  refine hr _ h1 (m1.mono fun j _ hj => by rw [hj]; exact e2S) ?_ (by rw [hw]; exact FErr.ok)
  rw [hn]
  simp only [Int.toNat_natCast]
  have nr : ∀ b, gRest p s1 si so sp Q N.vs.length P b → b ≠ s2.b := fun b hb e => e2n (e ▸ hb)
  refine ⟨s1, s2, s3, si, so, sp, P, Q, ?_⟩
  exact { blk := m1.blk g.blk (nr _ (.inl rfl))
          o1 := g.o1.mod m1 fun hn => nr _ (.inr (.inl ⟨hn, rfl⟩))
          o2 := o2
          o3 := g.o3.mod m1 fun hn => (g.d23 hnl hn).symm
          hP := g.hP
          row := fun q hq => (g.row q hq).mod m1 fun hne => nr _ (.inr (.inr (.inr (.inr (.inr (.inr ⟨q, hq, hne, rfl⟩))))))
          oi := g.oi.mod m1 fun _ => nr _ (.inr (.inr (.inl rfl)))
          oo := g.oo.mod m1 fun _ => nr _ (.inr (.inr (.inr (.inl rfl))))
          op := by
            have := g.op.mod m1 fun _ => nr _ (.inr (.inr (.inr (.inr (.inl rfl)))))
            simp only [List.length_set]
            rw [plc_set ha]
            exact this
          oq := fun x v hv => by
            simp only
            rw [ioO_set ha]
            exact (g.oq x v hv).mod m1 fun hn => nr _ (.inr (.inr (.inr (.inr (.inr (.inl ⟨x, v, hv, hn, rfl⟩))))))
          inS := g.inS
          e2 := g.e2
          e3 := g.e3
          d23 := g.d23
          lt := fun b hb => Nat.lt_of_lt_of_le (g.lt b hb) m1.size }

structure GrNew (Y : Sys) : Prop where
  New : Y.Has F.graph_New S_graph_New
  build : Y.Has F.graph_build S_graph_build
  Cl : GrCl Y
  N1 : NetFns Y

theorem NetOK.small {N : NetD} (ok : NetOK N) : NetSmall N := by
  refine ⟨by have := ok.bv; omega, by have := ok.ba; omega, by have := ok.bt; omega, fun i hi => ?_⟩
  obtain ⟨a1, a2, a3, a4, a5, _, _⟩ := tab_ok (ins := (nthB N.ts i).i) (outs := (nthB N.ts i).o) (cs := (nthB N.ts i).cs) (ok.tab i hi)
  have := (mul_wrap ⟨a1, a2⟩ ⟨a3, a4⟩).2
  omega

/-- New: a graph, or why there is none -/
theorem gnew_spec (G : GrNew Y) (T : TurnCk Y) {sv sa st : Sl} (r : NetH h sv sa st N) {R : Value → Heap → Prop}
    (hbad : ∀ v h', Ext h h' → (netW N).2 ≠ 0 → FErr Y h.size h' (netW N) v → R (.tuple #[.pointer none, v]) h')
    (hgood : ∀ h' p (S : Nat → Prop), Ext h h' → (netW N).2 = 0 → GraphA h' p N S → (∀ b, S b → h.size ≤ b) → R (.tuple #[.pointer (some ⟨p, 0, none⟩), .nilIface]) h') : CallP Y F.graph_New [netV sv sa st] h R := by
  refine .of_has G.New rfl ?_
  simp [S_graph_New, FnS.wp, netV]
  refine ef_new_box ?_
  intro B hB gB bB eB
  have cB : ∀ g, Ext g h → Ext g hB := fun g e => Mod.trans e eB
  simp (config := { maxDischargeDepth := 60 }) [cB, bB.sk, bB.rk]
  refine ncheck_spec G.N1 T (r.ext eB) ?_
  intro v h1 e1 hv
  have c_h1 : ∀ g, Ext g hB → Ext g h1 := fun g e => Mod.trans e e1
  have x1 := eB.trans e1
  have zB := eB.size
  by_cases c : (netW N).2 = 0
  rotate_left
  · obtain ⟨t, u, rfl⟩ := hv.here.iface c
    simp
    exact hbad _ h1 x1 c (hv.mono zB)
  have := hv.here.nil c
  subst this
  have ok := netOK_iff.1 c
  simp (config := { maxDischargeDepth := 60 }) [cB, bB.sk, bB.rk, c_h1]
  refine gclone_spec G.Cl (r.ext x1) ok.small ?_
  intro h2 s1 s2 s3 P e2 no
  have z1 := x1.size
  have z2 := e2.size
  simp
  refine build_spec G.build (lo := h1.size) no z2 ok.small ok.arcs ?_
  intro h3 p S e3 g hS
  simp
  exact hgood h3 p S ((x1.trans e2).trans e3) c g (fun b hb => by have := hS b hb; omega)

end
end Go.Rm

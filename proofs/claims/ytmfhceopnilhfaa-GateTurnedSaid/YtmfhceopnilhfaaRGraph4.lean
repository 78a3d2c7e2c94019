import Derived.Test.YtmfhceopnilhfaaEngU
import Derived.Test.YtmfhceopnilhfaaRGraph3

/- Graphs: what they tell, Set, Bend, Net, Twin, New. -/
set_option linter.unusedSimpArgs false
set_option linter.unusedVariables false
namespace Go.Rm

abbrev wGraph : ByteArray := ⟨#[103, 114, 97, 112, 104]⟩
def fromV (N : NetD) (a : Int) : Int := if vtxB N.as.length a then (nthT N.as a.toNat).a else -1
def toV (N : NetD) (a : Int) : Int := if vtxB N.as.length a then (nthT N.as a.toNat).b else -1
/-- Set, Bend: why not; the net behind it -/
def setW (N : NetD) (a w : Int) : Wr := if vtxB N.as.length a = false then atW wGraph a 5 else if weightB w = false then atW wGraph a 8 else wOK
def setN (N : NetD) (a w : Int) : NetD := if (setW N a w).2 = 0 then { N with as := N.as.set a.toNat ⟨(nthT N.as a.toNat).a, (nthT N.as a.toNat).b, w⟩ } else N
section
variable {Y : Sys} {h : Heap} {p : Nat} {N : NetD} {S : Nat → Prop}

theorem garc_spec (H : Y.Has F.graph_Graph_arc S_graph_Graph_arc) (g : GraphA h p N S) {a : Int} {R : Value → Heap → Prop} (hr : R (.bool (vtxB N.as.length a)) h) : CallP Y F.graph_Graph_arc [.pointer (some ⟨p, 0, none⟩), .int .i64 a] h R := by
  obtain ⟨s1, s2, s3, si, so, sp, P, Q, g⟩ := g
  have la := g.netH.ra.len
  rw [la] at hr
  refine .of_has H rfl ?_
  by_cases c : 0 ≤ a
  · have : vtxB s2.n a = decide (a < s2.n) := by simp [vtxB, c]
    rw [this] at hr
    simp [S_graph_Graph_arc, FnS.wp, g.blk.hc, c]
    exact hr
  · have : vtxB s2.n a = false := by simp [vtxB, c]
    rw [this] at hr
    simp [S_graph_Graph_arc, FnS.wp, g.blk.hc, c]
    exact hr
theorem gverts_spec (H : Y.Has F.graph_Graph_Verts S_graph_Graph_Verts) (g : GraphA h p N S) {R : Value → Heap → Prop} (hr : R (.int .i64 N.vs.length) h) : CallP Y F.graph_Graph_Verts [.pointer (some ⟨p, 0, none⟩)] h R := by
  obtain ⟨s1, s2, s3, si, so, sp, P, Q, g⟩ := g
  rw [g.netH.rv.len] at hr
  refine .of_has H rfl ?_
  simp [S_graph_Graph_Verts, FnS.wp, g.blk.hc]
  exact hr
theorem garcs_spec (H : Y.Has F.graph_Graph_Arcs S_graph_Graph_Arcs) (g : GraphA h p N S) {R : Value → Heap → Prop} (hr : R (.int .i64 N.as.length) h) : CallP Y F.graph_Graph_Arcs [.pointer (some ⟨p, 0, none⟩)] h R := by
  obtain ⟨s1, s2, s3, si, so, sp, P, Q, g⟩ := g
  rw [g.netH.ra.len] at hr
  refine .of_has H rfl ?_
  simp [S_graph_Graph_Arcs, FnS.wp, g.blk.hc]
  exact hr

theorem gfrom_spec (H : Y.Has F.graph_Graph_From S_graph_Graph_From) (HA : Y.Has F.graph_Graph_arc S_graph_Graph_arc) (g : GraphA h p N S) {a : Int} {R : Value → Heap → Prop} (hr : R (.int .i64 (fromV N a)) h) : CallP Y F.graph_Graph_From [.pointer (some ⟨p, 0, none⟩), .int .i64 a] h R := by
  refine .of_has H rfl ?_
  simp [S_graph_Graph_From, FnS.wp]
  refine garc_spec HA g ?_
  cases c : vtxB N.as.length a with
  | false =>
    simp [fromV, c] at hr
    simp
    exact hr
  | true =>
    obtain ⟨s1, s2, s3, si, so, sp, P, Q, g⟩ := g
    have la := g.netH.ra.len
    simp [fromV, c] at hr
    simp only [vtxB, decide_eq_true_eq] at c
    have a1 : a < s2.n := by omega
    simp [g.blk.hc, sem_idxa g.netH.ra.ok, c.1, a1, g.netH.ra.v0 a.toNat (by omega)]
    exact hr
theorem gto_spec (H : Y.Has F.graph_Graph_To S_graph_Graph_To) (HA : Y.Has F.graph_Graph_arc S_graph_Graph_arc) (g : GraphA h p N S) {a : Int} {R : Value → Heap → Prop} (hr : R (.int .i64 (toV N a)) h) : CallP Y F.graph_Graph_To [.pointer (some ⟨p, 0, none⟩), .int .i64 a] h R := by
  refine .of_has H rfl ?_
  simp [S_graph_Graph_To, FnS.wp]
  refine garc_spec HA g ?_
  cases c : vtxB N.as.length a with
  | false =>
    simp [toV, c] at hr
    simp
    exact hr
  | true =>
    obtain ⟨s1, s2, s3, si, so, sp, P, Q, g⟩ := g
    have la := g.netH.ra.len
    simp [toV, c] at hr
    simp only [vtxB, decide_eq_true_eq] at c
    have a1 : a < s2.n := by omega
    simp [g.blk.hc, sem_idxa g.netH.ra.ok, c.1, a1, g.netH.ra.v1 a.toNat (by omega)]
    exact hr
theorem GraphD.plc {s1 s2 s3 si so sp : Sl} {P : List (Tab × Sl)} {Q : Bool → Nat → Sl} (g : GraphD h p N S s1 s2 s3 si so sp P Q) {a : Nat} (ha : a < N.as.length) :
    hc h sp.b (sp.o + a * 2) = some (.int .i64 (cntB N.as a a : Nat)) ∧ hc h sp.b (sp.o + a * 2 + 1) = some (.int .i64 (cntA N.as a a : Nat)) := by
  obtain ⟨h1, h2⟩ := cells2_get (l := Rm.plc N.as N.as.length) (i := a) (by simpa using ha)
  rw [plc_at ha] at h1 h2
  exact ⟨g.op.cell h1, g.op.cell h2⟩
theorem GraphD.np {s1 s2 s3 si so sp : Sl} {P : List (Tab × Sl)} {Q : Bool → Nat → Sl} (g : GraphD h p N S s1 s2 s3 si so sp P Q) : sp.n = N.as.length := by
  have := g.op.1
  rw [cells2_len, plc_len] at this
  omega

structure GrNew (Y : Sys) : Prop where
  New : Y.Has F.graph_New S_graph_New
  build : Y.Has F.graph_build S_graph_build
  Cl : GrCl Y
  N1 : NetFns Y

theorem NetOK.small {N : NetD} (ok : NetOK N) : NetSmall N := by
  refine ⟨by have := ok.bv; omega, by have := ok.ba; omega, by have := ok.bt; omega, fun i hi => ?_⟩
  obtain ⟨a1, a2, a3, a4, a5, _, _⟩ := tab_ok (ins := (nthB N.ts i).i) (outs := (nthB N.ts i).o) (cs := (nthB N.ts i).cs) (ok.tab i hi)
  have := (mul_wrap ⟨a1, a2⟩ ⟨a3, a4⟩).2
  omega

/-- New: a graph, or why there is none -/
theorem gnew_spec (G : GrNew Y) (T : TurnCk Y) {sv sa st : Sl} (r : NetH h sv sa st N) {R : Value → Heap → Prop}
    (hbad : ∀ v h', Ext h h' → (netW N).2 ≠ 0 → FErr Y h.size h' (netW N) v → R (.tuple #[.pointer none, v]) h')
    (hgood : ∀ h' p (S : Nat → Prop), Ext h h' → (netW N).2 = 0 → GraphA h' p N S → (∀ b, S b → h.size ≤ b) → R (.tuple #[.pointer (some ⟨p, 0, none⟩), .nilIface]) h') : CallP Y F.graph_New [netV sv sa st] h R := by
  refine .of_has G.New rfl ?_
  simp [S_graph_New, FnS.wp, netV]
  refine ef_new_box ?_
  intro B hB gB bB eB
  have cB : ∀ g, Ext g h → Ext g hB := fun g e => Mod.trans e eB
  simp (config := { maxDischargeDepth := 60 }) [cB, bB.sk, bB.rk]
  refine ncheck_spec G.N1 T (r.ext eB) ?_
  intro v h1 e1 hv
  have c_h1 : ∀ g, Ext g hB → Ext g h1 := fun g e => Mod.trans e e1
  have x1 := eB.trans e1
  have zB := eB.size
  by_cases c : (netW N).2 = 0
  rotate_left
  · obtain ⟨t, u, rfl⟩ := hv.here.iface c
    simp
    exact hbad _ h1 x1 c (hv.mono zB)
  have := hv.here.nil c
  subst this
  have ok := netOK_iff.1 c
  simp (config := { maxDischargeDepth := 60 }) [cB, bB.sk, bB.rk, c_h1]
  refine gclone_spec G.Cl (r.ext x1) ok.small ?_
  intro h2 s1 s2 s3 P e2 no
  have z1 := x1.size
  have z2 := e2.size
  simp
  refine build_spec G.build (lo := h1.size) no z2 ok.small ok.arcs ?_
  intro h3 p S e3 g hS
  simp
  exact hgood h3 p S ((x1.trans e2).trans e3) c g (fun b hb => by have := hS b hb; omega)

end
end Go.Rm

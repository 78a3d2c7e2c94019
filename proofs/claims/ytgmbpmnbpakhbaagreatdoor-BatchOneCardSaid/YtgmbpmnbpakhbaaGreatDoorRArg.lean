import Derived.Test.YtgmbpmnbpakhbaaGreatDoorEngR
import Derived.Test.YtgmbpmnbpakhbaaGreatDoorRNet

/- What a law is handed: nets, read out of memory. -/
set_option linter.unusedSimpArgs false
set_option linter.unusedVariables false
namespace Go.Rm
open Go.ChangeShapes Go.WideShapes Go.Deep

instance : Inhabited Tri := ⟨⟨0, 0, 0⟩⟩
instance : Inhabited Tab := ⟨⟨0, 0, []⟩⟩
def fldAt (fs : Array Field) (i : Nat) : Option (Nat × TypeId) := (fs[i]?).map fun f => (f.offset, f.type)

/-- which types nets have -/
structure NetTy (P : Program) where
  net : TypeId
  verts : TypeId
  arcs : TypeId
  types : TypeId
  vert : TypeId
  arc : TypeId
  tab : TypeId
  int : TypeId
  i64 : TypeId
  costs : TypeId
  netF : Array Field
  vertF : Array Field
  arcF : Array Field
  tabF : Array Field
  u_net : P.underlying net = some (.struct netF)
  u_vert : P.underlying vert = some (.struct vertF)
  u_arc : P.underlying arc = some (.struct arcF)
  u_tab : P.underlying tab = some (.struct tabF)
  u_verts : P.underlying verts = some (.slice vert)
  u_arcs : P.underlying arcs = some (.slice arc)
  u_types : P.underlying types = some (.slice tab)
  u_costs : P.underlying costs = some (.slice i64)
  u_int : P.underlying int = some (.int .i64)
  u_i64 : P.underlying i64 = some (.int .i64)
  c_net : P.cellsOf net = 3
  c_vert : P.cellsOf vert = 3
  c_arc : P.cellsOf arc = 3
  c_tab : P.cellsOf tab = 3
  c_verts : P.cellsOf verts = 1
  c_arcs : P.cellsOf arcs = 1
  c_types : P.cellsOf types = 1
  c_costs : P.cellsOf costs = 1
  c_int : P.cellsOf int = 1
  c_i64 : P.cellsOf i64 = 1
  n0 : fldAt netF 0 = some (0, verts)
  n1 : fldAt netF 1 = some (1, arcs)
  n2 : fldAt netF 2 = some (2, types)
  v0 : fldAt vertF 0 = some (0, int)
  v1 : fldAt vertF 1 = some (1, int)
  v2 : fldAt vertF 2 = some (2, int)
  a0 : fldAt arcF 0 = some (0, int)
  a1 : fldAt arcF 1 = some (1, int)
  a2 : fldAt arcF 2 = some (2, i64)
  t0 : fldAt tabF 0 = some (0, int)
  t1 : fldAt tabF 1 = some (1, int)
  t2 : fldAt tabF 2 = some (2, costs)

section
variable {H : Type} {enc : TypeId × Value → H} {P : Program} {W : World} {base : Nat}

theorem fldAt_some {fs : Array Field} {i o : Nat} {t : TypeId} (h : fldAt fs i = some (o, t)) : ∃ f, fs[i]? = some f ∧ f.offset = o ∧ f.type = t := by
  unfold fldAt at h
  cases hf : fs[i]? with
  | none => rw [hf] at h; cases h
  | some f =>
    rw [hf] at h
    simp only [Option.map_some, Option.some.injEq, Prod.mk.injEq] at h
    exact ⟨f, rfl, h.1, h.2⟩
theorem Read.gint {t u : TypeId} {fs : Array Field} {cs : List Value} {i o : Nat} {k : IntKind} (h : Read enc P W base t cs) (ht : P.underlying t = some (.struct fs)) (hf : fldAt fs i = some (o, u)) (hk : P.underlying u = some (.int k)) (hc : P.cellsOf u = 1) :
    ∃ n, cs[o]? = some (.int k n) ∧ k.min ≤ n ∧ n ≤ k.max := by
  obtain ⟨f, h1, h2, h3⟩ := fldAt_some hf
  subst h2
  subst h3
  exact h.fint ht h1 hk hc
theorem Read.gslice {t u e : TypeId} {fs : Array Field} {cs : List Value} {i o : Nat} (h : Read enc P W base t cs) (ht : P.underlying t = some (.struct fs)) (hf : fldAt fs i = some (o, u)) (hk : P.underlying u = some (.slice e)) (hc : P.cellsOf u = 1) :
    ∃ v, cs[o]? = some v ∧ Read enc P W base u [v] := by
  obtain ⟨f, h1, h2, h3⟩ := fldAt_some hf
  subst h2
  subst h3
  exact h.fslice ht h1 hk hc

theorem tri_row {s : Sl} {n : Nat} (ok : s.ok) (hn : n = s.n) {f : Nat → Tri} (hf : ∀ i, i < s.n → ∀ j, j < 3 → hc W.heap s.b (s.o + i * 3 + j) = [Value.int .i64 (f i).a, .int .i64 (f i).b, .int .i64 (f i).c][j]?) :
    Row3 W.heap s ((List.range n).map f) := by
  subst hn
  have g : ∀ i, i < s.n → nthT ((List.range s.n).map f) i = f i := fun i hi => by simp [nthT, hi]
  refine ⟨ok, by simp, fun i hi => ?_, fun i hi => ?_, fun i hi => ?_⟩
  all_goals
    have hi' : i < s.n := by simpa using hi
    rw [g i hi']
  · have := hf i hi' 0 (by omega); simpa using this
  · have := hf i hi' 1 (by omega); simpa using this
  · have := hf i hi' 2 (by omega); simpa using this

/-- a row of structs of three numbers -/
theorem Read.tris {t e x y z : TypeId} {fs : Array Field} {v : Value} (h : Read enc P W base t [v]) (ht : P.underlying t = some (.slice e)) (he : P.underlying e = some (.struct fs)) (hce : P.cellsOf e = 3)
    (h0 : fldAt fs 0 = some (0, x)) (h1 : fldAt fs 1 = some (1, y)) (h2 : fldAt fs 2 = some (2, z)) (ux : P.underlying x = some (.int .i64)) (uy : P.underlying y = some (.int .i64)) (uz : P.underlying z = some (.int .i64))
    (cx : P.cellsOf x = 1) (cy : P.cellsOf y = 1) (cz : P.cellsOf z = 1) : ∃ (s : Sl) (l : List Tri), v = s.v ∧ Row3 W.heap s l := by
  obtain ⟨s, e1, ok, _, hx⟩ := h.slice ht hce (by omega)
  obtain ⟨f, hf⟩ := choose_lt (α := Tri) (n := s.n) (p := fun i (n : Tri) => ∀ j, j < 3 → hc W.heap s.b (s.o + i * 3 + j) = [Value.int .i64 n.a, .int .i64 n.b, .int .i64 n.c][j]?) (fun i hi => by
    obtain ⟨cs', hl, hall, hr⟩ := hx i hi
    obtain ⟨a, ha, _⟩ := hr.gint he h0 ux cx
    obtain ⟨b, hb, _⟩ := hr.gint he h1 uy cy
    obtain ⟨c, hc, _⟩ := hr.gint he h2 uz cz
    refine ⟨⟨a, b, c⟩, fun j hj => ?_⟩
    rw [hall j hj]
    match j, hj with
    | 0, _ => exact ha
    | 1, _ => exact hb
    | 2, _ => exact hc)
  exact ⟨s, _, by simpa using e1, tri_row ok rfl hf⟩

theorem Read.costs {t e : TypeId} {v : Value} (h : Read enc P W base t [v]) (ht : P.underlying t = some (.slice e)) (he : P.underlying e = some (.int .i64)) (hce : P.cellsOf e = 1) : ∃ (s : Sl) (cs : List Int), v = s.v ∧ Row64 W.heap s cs ∧ ∀ x ∈ cs, IntKind.i64.min ≤ x ∧ x ≤ IntKind.i64.max := by
  obtain ⟨s, f, e1, _, hs, hf⟩ := h.ints ht he hce
  refine ⟨s, (List.range s.n).map f, by simpa using e1, ⟨hs.ok, by simp, fun i hi => ?_⟩, fun x hx => ?_⟩
  · have hi' : i < s.n := by simpa using hi
    rw [hs.val i hi']
    simp [nthI, hi']
  · simp only [List.mem_map, List.mem_range] at hx
    obtain ⟨i, hi, rfl⟩ := hx
    exact hf i hi

/-- a row of tables -/
theorem Read.tabs (T : NetTy P) {v : Value} (h : Read enc P W base T.types [v]) : ∃ (s : Sl) (l : List Tab), v = s.v ∧ RowT W.heap s l := by
  obtain ⟨s, e1, ok, _, hx⟩ := h.slice T.u_types T.c_tab (by omega)
  obtain ⟨f, hf⟩ := choose_lt (α := Tab) (n := s.n) (p := fun i (n : Tab) => ∃ u : Sl, hc W.heap s.b (s.o + i * 3) = some (.int .i64 n.i) ∧ hc W.heap s.b (s.o + i * 3 + 1) = some (.int .i64 n.o) ∧ hc W.heap s.b (s.o + i * 3 + 2) = some u.v ∧ Row64 W.heap u n.cs) (fun i hi => by
    obtain ⟨cs', hl, hall, hr⟩ := hx i hi
    obtain ⟨a, ha, _⟩ := hr.gint T.u_tab T.t0 T.u_int T.c_int
    obtain ⟨b, hb, _⟩ := hr.gint T.u_tab T.t1 T.u_int T.c_int
    obtain ⟨w, hw, hrw⟩ := hr.gslice T.u_tab T.t2 T.u_costs T.c_costs
    obtain ⟨u, cs, rfl, hu, _⟩ := hrw.costs T.u_costs T.u_i64 T.c_i64
    exact ⟨⟨a, b, cs⟩, u, by rw [← ha, ← hall 0 (by omega)]; rfl, by rw [← hb, ← hall 1 (by omega)], by rw [← hw, ← hall 2 (by omega)], hu⟩)
  refine ⟨s, (List.range s.n).map f, by simpa using e1, ok, by simp, fun i hi => ?_⟩
  have hi' : i < s.n := by simpa using hi
  have g : nthB ((List.range s.n).map f) i = f i := by simp [nthB, hi']
  rw [g]
  exact hf i hi'

theorem Read.net (T : NetTy P) {cs : Array Value} (hr : Read enc P W base T.net cs.toList) (hsz : cs.size = 3) : ∃ (sv sa st : Sl) (N : NetD), Value.agg cs = netV sv sa st ∧ NetH W.heap sv sa st N := by
  obtain ⟨v1, e1, h1⟩ := hr.gslice T.u_net T.n0 T.u_verts T.c_verts
  obtain ⟨v2, e2, h2⟩ := hr.gslice T.u_net T.n1 T.u_arcs T.c_arcs
  obtain ⟨v3, e3, h3⟩ := hr.gslice T.u_net T.n2 T.u_types T.c_types
  obtain ⟨sv, lv, rfl, rv⟩ := h1.tris T.u_verts T.u_vert T.c_vert T.v0 T.v1 T.v2 T.u_int T.u_int T.u_int T.c_int T.c_int T.c_int
  obtain ⟨sa, la, rfl, ra⟩ := h2.tris T.u_arcs T.u_arc T.c_arc T.a0 T.a1 T.a2 T.u_int T.u_int T.u_i64 T.c_int T.c_int T.c_i64
  obtain ⟨st, lt, rfl, rt⟩ := h3.tabs T
  refine ⟨sv, sa, st, ⟨lv, la, lt⟩, ?_, rv, ra, rt⟩
  unfold netV
  congr 1
  apply Array.ext'
  apply List.ext_getElem?
  intro k
  match k with
  | 0 => exact e1
  | 1 => exact e2
  | 2 => exact e3
  | k + 3 =>
    rw [List.getElem?_eq_none (by simp; omega), List.getElem?_eq_none (by simp)]

theorem ArgIs.net (T : NetTy P) {v : Value} (h : ArgIs enc P W T.net v) : ∃ (sv sa st : Sl) (N : NetD), v = netV sv sa st ∧ NetH W.heap sv sa st N := by
  obtain ⟨cs, rfl, hsz, hr⟩ := h.1.agg T.u_net (by rw [T.c_net]; decide)
  rw [T.c_net] at hsz
  exact Read.net T hr hsz

theorem ArgIs.costs {t e : TypeId} {v : Value} (h : ArgIs enc P W t v) (ht : P.underlying t = some (.slice e)) (he : P.underlying e = some (.int .i64)) (hce : P.cellsOf e = 1) : ∃ (s : Sl) (cs : List Int), v = s.v ∧ Row64 W.heap s cs ∧ ∀ x ∈ cs, IntKind.i64.min ≤ x ∧ x ≤ IntKind.i64.max :=
  (h.slice ht).costs ht he hce
end
end Go.Rm

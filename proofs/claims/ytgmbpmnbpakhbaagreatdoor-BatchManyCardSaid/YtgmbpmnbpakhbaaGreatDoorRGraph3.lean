import Derived.Test.YtgmbpmnbpakhbaaGreatDoorRGraph2

/- Graphs in memory; build. -/
set_option linter.unusedSimpArgs false
set_option linter.unusedVariables false
namespace Go.Rm

-- rows of two cells
def cells2 (l : List (Value × Value)) : List Value := l.flatMap fun t => [t.1, t.2]
theorem cells2_len {l : List (Value × Value)} : (cells2 l).length = l.length * 2 := by
  induction l with
  | nil => rfl
  | cons t r ih => simp only [cells2, List.flatMap_cons, List.length_append, List.length_cons, List.length_nil] at ih ⊢; omega
theorem cells2_get {l : List (Value × Value)} : ∀ {i : Nat} (hi : i < l.length), (cells2 l)[i * 2]? = some l[i].1 ∧ (cells2 l)[i * 2 + 1]? = some l[i].2 := by
  induction l with
  | nil => intro i hi; simp at hi
  | cons t r ih =>
    intro i hi
    have e : cells2 (t :: r) = t.1 :: t.2 :: cells2 r := rfl
    rw [e]
    cases i with
    | zero => simp
    | succ i =>
      have := ih (i := i) (by simpa using hi)
      have q0 : (i + 1) * 2 = i * 2 + 1 + 1 := by omega
      have q1 : (i + 1) * 2 + 1 = i * 2 + 1 + 1 + 1 := by omega
      rw [q1, q0]
      simp only [List.getElem?_cons_succ, List.getElem_cons_succ]
      exact this
theorem cells2_splice : ∀ {l : List (Value × Value)} {i : Nat} {x : Value × Value}, i < l.length → cells2 (l.set i x) = (cells2 l).take (i * 2) ++ [x.1, x.2] ++ (cells2 l).drop (i * 2 + 2) := by
  intro l
  induction l with
  | nil => intro i x hi; simp at hi
  | cons t r ih =>
    intro i x hi
    have e : cells2 (t :: r) = t.1 :: t.2 :: cells2 r := rfl
    cases i with
    | zero =>
      rw [e]
      simp [cells2]
    | succ i =>
      have := ih (i := i) (x := x) (by simpa using hi)
      have q0 : (i + 1) * 2 = i * 2 + 1 + 1 := by omega
      have q1 : (i + 1) * 2 + 2 = i * 2 + 2 + 1 + 1 := by omega
      rw [e, q1, q0]
      simp only [List.set_cons_succ, List.take_succ_cons, List.drop_succ_cons, List.cons_append]
      rw [← this]
      rfl
theorem cells2_zero {n : Nat} {v : Value} : List.replicate (n * 2) v = cells2 (List.replicate n (v, v)) := by
  induction n with
  | zero => rfl
  | succ n ih =>
    rw [show (n + 1) * 2 = n * 2 + 1 + 1 by omega, List.replicate_succ, List.replicate_succ, ih, List.replicate_succ]
    rfl

/-- the places of the arcs, of the first i of them -/
def plc (as : List Tri) (i : Nat) : List (Value × Value) := (List.range as.length).map fun j => if j < i then (.int .i64 (cntB as j j : Nat), .int .i64 (cntA as j j : Nat)) else (.int .i64 0, .int .i64 0)
@[simp] theorem plc_len {as : List Tri} {i : Nat} : (plc as i).length = as.length := by simp [plc]
theorem plc_zero {as : List Tri} : plc as 0 = List.replicate as.length (.int .i64 0, .int .i64 0) := by
  apply List.ext_getElem (by simp)
  intro j h1 h2
  simp [plc]
theorem plc_step {as : List Tri} {i : Nat} {a b : Int} (hi : i < as.length) (ha : a = cntB as i i) (hb : b = cntA as i i) : (plc as i).set i (.int .i64 a, .int .i64 b) = plc as (i + 1) := by
  apply List.ext_getElem (by simp)
  intro j h1 h2
  rw [List.getElem_set]
  simp only [plc, List.getElem_map, List.getElem_range]
  by_cases c : i = j
  · subst c; simp [ha, hb]
  · have : (j < i + 1) = (j < i) := by simp; omega
    simp only [if_neg c, this]
theorem plc_at {as : List Tri} {j : Nat} (hj : j < as.length) : (plc as as.length)[j]'(by simpa using hj) = (.int .i64 (cntB as j j : Nat), .int .i64 (cntA as j j : Nat)) := by
  simp [plc, hj]

/-- the arcs that end (x: begin) at a vertex -/
def ioO (x : Bool) (as : List Tri) (v : Nat) : List Int := if x then outsO as v else insO as v
def rowQ (nv : Nat) (q : Nat → Sl) : List Value := (List.range nv).map fun v => (q v).v
@[simp] theorem rowQ_len {nv : Nat} {q : Nat → Sl} : (rowQ nv q).length = nv := by simp [rowQ]
theorem rowQ_get {nv v : Nat} {q : Nat → Sl} (hv : v < nv) : (rowQ nv q)[v]? = some (q v).v := by simp [rowQ, hv]
theorem rowQ_set {nv v : Nat} {q : Nat → Sl} {s : Sl} : (rowQ nv q).set v s.v = rowQ nv (fun u => if u = v then s else q u) := by
  apply List.ext_getElem (by simp)
  intro j h1 h2
  rw [List.getElem_set]
  simp only [rowQ, List.getElem_map, List.getElem_range]
  by_cases c : v = j
  · subst c; simp
  · have : ¬ j = v := fun e => c e.symm
    simp [c, this]

structure QOK (lo : Nat) (h : Heap) (nv : Nat) (Q : Bool → Nat → Sl) (l : Bool → List Tri) : Prop where
  own : ∀ x v, v < nv → Own h 1 (Q x v) (ints64 (ioO x (l x) v))
  fr : ∀ x v, v < nv → (Q x v).nl = false → lo ≤ (Q x v).b
  dj : ∀ x u y v, u < nv → v < nv → (x ≠ y ∨ u ≠ v) → (Q x u).nl = false → (Q y v).nl = false → (Q x u).b ≠ (Q y v).b

section
variable {Y : Sys} {h h' : Heap}

theorem QOK.mod {S : Nat → Prop} {lo nv : Nat} {Q : Bool → Nat → Sl} {l : Bool → List Tri} (q : QOK lo h nv Q l) (m : Mod S h h') (hs : ∀ b, S b → b < lo) : QOK lo h' nv Q l :=
  ⟨fun x v hv => (q.own x v hv).mod m fun hn hb => by have := hs _ hb; have := q.fr x v hv hn; omega, q.fr, q.dj⟩
theorem QOK.ext {lo nv : Nat} {Q : Bool → Nat → Sl} {l : Bool → List Tri} (q : QOK lo h nv Q l) (m : Ext h h') : QOK lo h' nv Q l := q.mod m fun _ h => h.elim
/-- one row grows -/
theorem QOK.step {lo nv t : Nat} {Q : Bool → Nat → Sl} {l l' : Bool → List Tri} {x : Bool} {s' : Sl} (q : QOK lo h nv Q l) (ht : t < nv) (hlo : lo ≤ h.size) (o : Own h' 1 s' (ints64 (ioO x (l' x) t))) (m : Mod (fun j => (Q x t).nl = false ∧ j = (Q x t).b) h h')
    (hs : (s'.b = (Q x t).b ∧ s'.nl = (Q x t).nl) ∨ (h.size ≤ s'.b ∧ s'.nl = false)) (hl : ∀ y v, v < nv → (y ≠ x ∨ v ≠ t) → ioO y (l' y) v = ioO y (l y) v) :
    QOK lo h' nv (fun y v => if y = x ∧ v = t then s' else Q y v) l' := by
  refine ⟨fun y v hv => ?_, fun y v hv hn => ?_, fun y u z v hu hv hne h1 h2 => ?_⟩
  · by_cases c : y = x ∧ v = t
    · obtain ⟨rfl, rfl⟩ := c
      simp only [and_self, if_true]
      exact o
    · simp only [if_neg c]
      have hc : y ≠ x ∨ v ≠ t := by
        rcases Decidable.em (y = x) with e | e
        · exact .inr fun e2 => c ⟨e, e2⟩
        · exact .inl e
      rw [hl y v hv hc]
      exact (q.own y v hv).mod m fun hn hb => q.dj y v x t hv ht hc hn hb.1 hb.2
  · by_cases c : y = x ∧ v = t
    · simp only [if_pos c] at hn ⊢
      rcases hs with ⟨e1, e2⟩ | ⟨e1, _⟩
      · rw [e1]; exact q.fr x t ht (by rw [← e2]; exact hn)
      · omega
    · simp only [if_neg c] at hn ⊢
      exact q.fr y v hv hn
  · have lt : ∀ y v, v < nv → (Q y v).nl = false → (Q y v).b < h.size := fun y v hv hn => (q.own y v hv).lt hn
    by_cases c : y = x ∧ u = t
    · by_cases d : z = x ∧ v = t
      · obtain ⟨rfl, rfl⟩ := c
        obtain ⟨rfl, rfl⟩ := d
        rcases hne with e | e <;> exact absurd rfl e
      · simp only [if_pos c] at h1 ⊢
        simp only [if_neg d] at h2 ⊢
        obtain ⟨rfl, rfl⟩ := c
        rcases hs with ⟨e1, e2⟩ | ⟨e1, _⟩
        · rw [e1]; exact q.dj y u z v hu hv hne (by rw [← e2]; exact h1) h2
        · have := lt z v hv h2; omega
    · by_cases d : z = x ∧ v = t
      · simp only [if_neg c] at h1 ⊢
        simp only [if_pos d] at h2 ⊢
        obtain ⟨rfl, rfl⟩ := d
        rcases hs with ⟨e1, e2⟩ | ⟨e1, _⟩
        · rw [e1]; exact q.dj y u z v hu hv hne h1 (by rw [← e2]; exact h2)
        · have := lt y u hu h1; omega
      · simp only [if_neg c] at h1 ⊢
        simp only [if_neg d] at h2 ⊢
        exact q.dj y u z v hu hv hne h1 h2

/-- what of a graph's memory is never stored into -/
def gRest (p : Nat) (s1 si so sp : Sl) (Q : Bool → Nat → Sl) (nv : Nat) (P : List (Tab × Sl)) (b : Nat) : Prop :=
  b = p ∨ (s1.nl = false ∧ b = s1.b) ∨ b = si.b ∨ b = so.b ∨ b = sp.b ∨ (∃ x v, v < nv ∧ (Q x v).nl = false ∧ b = (Q x v).b) ∨ ∃ q ∈ P, q.1.cs ≠ [] ∧ b = q.2.b

structure GraphD (h : Heap) (p : Nat) (N : NetD) (S : Nat → Prop) (s1 s2 s3 si so sp : Sl) (P : List (Tab × Sl)) (Q : Bool → Nat → Sl) : Prop where
  blk : Blk h p #[s1.v, s2.v, s3.v, si.v, so.v, sp.v]
  o1 : Own h 3 s1 (cells3 (N.vs.map triV))
  o2 : Own h 3 s2 (cells3 (N.as.map triV))
  o3 : Own h 3 s3 (cells3 (P.map tabP))
  hP : P.map Prod.fst = N.ts
  row : ∀ q ∈ P, Row64 h q.2 q.1.cs
  oi : Own h 1 si (rowQ N.vs.length (Q false))
  oo : Own h 1 so (rowQ N.vs.length (Q true))
  op : Own h 2 sp (cells2 (plc N.as N.as.length))
  oq : ∀ x v, v < N.vs.length → Own h 1 (Q x v) (ints64 (ioO x N.as v))
  inS : ∀ b, gRest p s1 si so sp Q N.vs.length P b → S b
  e2 : s2.nl = false → S s2.b ∧ ¬ gRest p s1 si so sp Q N.vs.length P s2.b
  e3 : s3.nl = false → S s3.b ∧ ¬ gRest p s1 si so sp Q N.vs.length P s3.b
  d23 : s2.nl = false → s3.nl = false → s2.b ≠ s3.b
  lt : ∀ b, S b → b < h.size
/-- a graph that is the net N, in the blocks of S -/
def GraphA (h : Heap) (p : Nat) (N : NetD) (S : Nat → Prop) : Prop := ∃ s1 s2 s3 si so sp P Q, GraphD h p N S s1 s2 s3 si so sp P Q

theorem GraphD.netH {p : Nat} {N : NetD} {S : Nat → Prop} {s1 s2 s3 si so sp : Sl} {P : List (Tab × Sl)} {Q : Bool → Nat → Sl} (g : GraphD h p N S s1 s2 s3 si so sp P Q) : NetH h s1 s2 s3 N :=
  ⟨g.o1.row3, g.o2.row3, g.o3.rowT g.hP g.row⟩
theorem GraphD.mod {S' : Nat → Prop} {p : Nat} {N : NetD} {S : Nat → Prop} {s1 s2 s3 si so sp : Sl} {P : List (Tab × Sl)} {Q : Bool → Nat → Sl} (g : GraphD h p N S s1 s2 s3 si so sp P Q) (m : Mod S' h h') (hd : ∀ b, S b → ¬ S' b) : GraphD h' p N S s1 s2 s3 si so sp P Q :=
  have hi := fun b hb => hd b (g.inS b hb)
  { g with
    blk := m.blk g.blk (hi _ (.inl rfl))
    o1 := g.o1.mod m fun hn => hi _ (.inr (.inl ⟨hn, rfl⟩))
    o2 := g.o2.mod m fun hn => hd _ (g.e2 hn).1
    o3 := g.o3.mod m fun hn => hd _ (g.e3 hn).1
    row := fun q hq => (g.row q hq).mod m fun hne => hi _ (.inr (.inr (.inr (.inr (.inr (.inr ⟨q, hq, hne, rfl⟩))))))
    oi := g.oi.mod m fun _ => hi _ (.inr (.inr (.inl rfl)))
    oo := g.oo.mod m fun _ => hi _ (.inr (.inr (.inr (.inl rfl))))
    op := g.op.mod m fun _ => hi _ (.inr (.inr (.inr (.inr (.inl rfl)))))
    oq := fun x v hv => (g.oq x v hv).mod m fun hn => hi _ (.inr (.inr (.inr (.inr (.inr (.inl ⟨x, v, hv, hn, rfl⟩))))))
    lt := fun b hb => Nat.lt_of_lt_of_le (g.lt b hb) m.size }
theorem GraphA.mod {S' : Nat → Prop} {p : Nat} {N : NetD} {S : Nat → Prop} (g : GraphA h p N S) (m : Mod S' h h') (hd : ∀ b, S b → ¬ S' b) : GraphA h' p N S := by
  obtain ⟨s1, s2, s3, si, so, sp, P, Q, g⟩ := g
  exact ⟨s1, s2, s3, si, so, sp, P, Q, g.mod m hd⟩
theorem GraphA.ext {p : Nat} {N : NetD} {S : Nat → Prop} (g : GraphA h p N S) (m : Ext h h') : GraphA h' p N S := g.mod m fun _ _ h => h
theorem GraphA.lt {p : Nat} {N : NetD} {S : Nat → Prop} (g : GraphA h p N S) : ∀ b, S b → b < h.size := by
  obtain ⟨s1, s2, s3, si, so, sp, P, Q, g⟩ := g
  exact g.lt

theorem sem_build_gr {z0 z1 z2 z3 z4 z5 a b c : Value} {x y w : Option Addr} {n m k n' m' k' : Nat} :
    IOp.sem Y h (.build #[z0, z1, z2, z3, z4, z5] [(0, 3), (3, 1), (4, 1), (5, 1)] [0, 1, 2, 3]) [.agg #[a, b, c], .slice x n n', .slice y m m', .slice w k k'] = some (.agg #[a, b, c, .slice x n n', .slice y m m', .slice w k k']) := by
  simp [IOp.sem, Instr.fill]
theorem idxF_same {p : Tri → Bool} {l : List Tri} {i : Nat} (hi : i < l.length) (hp : p (nthT l i) = false) : idxF p 0 (l.take (i + 1)) = idxF p 0 (l.take i) := by
  rw [idxF_snoc hi, hp]
  simp

@[simp] theorem sem_build_2i {z0 z1 : Value} {a b : Int} : IOp.sem Y h (.build #[z0, z1] [(0, 1), (1, 1)] [0, 1]) [.int .i64 a, .int .i64 b] = some (.agg #[.int .i64 a, .int .i64 b]) := sem_build2 rfl rfl

def BdI (v0 : Value) (A p : Nat) (si so sp sa : Sl) (N : NetD) (h0 : Heap) (e : List Value) (h' : Heap) : Prop :=
  ∃ (i : Nat) (Q : Bool → Nat → Sl) (v2 v4 v5 v9 : Value), e = [v0, .pointer (some ⟨A, 0, none⟩), v2, .pointer (some ⟨p, 0, none⟩), v4, v5, sa.v, .int .i64 sa.n, .int .i64 i, v9] ∧ i ≤ sa.n ∧ Own h' 1 si (rowQ N.vs.length (Q false)) ∧ Own h' 1 so (rowQ N.vs.length (Q true)) ∧ Own h' 2 sp (cells2 (plc N.as i)) ∧ QOK h0.size h' N.vs.length Q (fun _ => N.as.take i) ∧ Mod (fun j => j = si.b ∨ j = so.b ∨ j = sp.b) h0 h'

set_option maxHeartbeats 2000000 in
theorem build_spec (HB : Y.Has F.graph_build S_graph_build) {lo : Nat} {sv sa st : Sl} {P : List (Tab × Sl)} {N : NetD} (no : NetOwn h lo sv sa st P N) (hlo : lo ≤ h.size) (bs : NetSmall N) (hA : ArcsIn N) {R : Value → Heap → Prop}
    (hr : ∀ h' p (S : Nat → Prop), Ext h h' → GraphA h' p N S → (∀ b, S b → lo ≤ b) → R (.pointer (some ⟨p, 0, none⟩)) h') : CallP Y F.graph_build [netV sv sa st] h R := by
  have r := no.netH
  have lv := r.rv.len
  have la := r.ra.len
  have lt := r.rt.len
  obtain ⟨bv, ba, bt, bc⟩ := bs
  refine .of_has HB rfl ?_
  simp [S_graph_build, FnS.wp, netV]
  refine ef_new_box ?_
  intro A hA' gA bA eA
  have lA := bA.lt
  have zA := eA.size
  have cont : ∀ (p : Nat) (hG : Heap) (si so sp : Sl), Ext hA' hG → Blk hG p #[sv.v, sa.v, st.v, si.v, so.v, sp.v] → Own hG 1 si (List.replicate sv.n (.slice none 0 0)) → Own hG 1 so (List.replicate sv.n (.slice none 0 0)) → Own hG 2 sp (List.replicate (sa.n * 2) (.int .i64 0)) →
      si.nl = false → so.nl = false → sp.nl = false → hA'.size ≤ si.b → hA'.size ≤ so.b → hA'.size ≤ sp.b → hA'.size ≤ p → si.b ≠ so.b → si.b ≠ sp.b → so.b ≠ sp.b → p ≠ si.b → p ≠ so.b → p ≠ sp.b →
      Stmt.wp Y S_graph_build.body.rest.rest (resP S_graph_build.res R) (fun _ _ _ => False) (resP S_graph_build.res R) [netV sv sa st, .pointer (some ⟨A, 0, none⟩), .pointer none, .pointer (some ⟨p, 0, none⟩), undef, undef, undef, undef, undef, undef] hG := by
    intro p hG si so sp x0 bp oi oo op ni nO np fi fo fp fpp d1 d2 d3 d4 d5 d6
    have zG := x0.size
    have bA0 := bA.ext x0
    have li := oi.lt ni
    have lo' := oo.lt nO
    have lp := op.lt np
    have lpp := bp.lt
    have e0 : List.replicate sv.n (.slice none 0 0) = rowQ N.vs.length (fun _ => Sl.nil) := by
      rw [lv]
      apply List.ext_getElem (by simp)
      intro j h1 h2
      simp [rowQ, Sl.nil_v]
    have e1 : List.replicate (sa.n * 2) (.int .i64 0) = cells2 (plc N.as 0) := by rw [cells2_zero, plc_zero, la]
    rw [e0] at oi oo
    rw [e1] at op
    simp [S_graph_build, Stmt.rest, bA0.hc]
    refine wp_loop' (BdI (netV sv sa st) A p si so sp sa N hG) (fun e _ => sa.n - argI e 8) ⟨0, fun _ _ => Sl.nil, _, _, _, _, rfl, by omega, oi, oo, op, ⟨fun x v _ => by cases x <;> exact Own.nil, fun x v _ hn => (by cases hn), fun x u y v _ _ _ hn => (by cases hn)⟩, Mod.refl _⟩ ?_
    clear oi oo op e0 e1
    rintro e h2 ⟨i, Q, v2, v4, v5, v9, rfl, hi, oi, oo, op, q, m2⟩
    have z2 := m2.size
    have xA2 : Ext hA' h2 := Mod.ext x0 m2 (fun j hj => by omega)
    have bp2 := m2.blk bp (by omega)
    have r2 := r.ext (eA.trans xA2)
    by_cases c : i < sa.n
    · have c' : (i : Int) < sa.n := by omega
      have ci : i < N.as.length := by omega
      have w1 : IntKind.i64.wrap ((i : Int) + 1) = (i : Int) + 1 := i64_wrap (by omega)
      obtain ⟨q1, q2⟩ := hA i ci
      simp only [vtxB, decide_eq_true_eq] at q1 q2
      obtain ⟨f, hf⟩ : ∃ f : Nat, (nthT N.as i).a = f := ⟨(nthT N.as i).a.toNat, by omega⟩
      obtain ⟨g, hg⟩ : ∃ g : Nat, (nthT N.as i).b = g := ⟨(nthT N.as i).b.toNat, by omega⟩
      rw [hf] at q1
      rw [hg] at q2
      have fv : f < N.vs.length := by omega
      have gv : g < N.vs.length := by omega
      have rd2 := r2.ra.rd ci
      rw [hf, hg] at rd2
      simp [c', sem_idxa r2.ra.ok, rd2]
      refine new_store (vs := #[.int .i64 f, .int .i64 g, .int .i64 (nthT N.as i).c]) rfl rfl (by simp) ?_
      intro D hDp gD bDp eDp stD
      simp
      refine stD _ ?_
      intro hD bD eD
      clear stD bDp eDp
      have zD := eD.size
      have lD := bD.lt
      have oi := oi.ext' eD
      have oo := oo.ext' eD
      have op := op.ext' eD
      have ltQ : ∀ x v, v < N.vs.length → (Q x v).nl = false → (Q x v).b < h2.size := fun x v hv hn => (q.own x v hv).lt hn
      have q := q.ext eD
      have bp3 := bp2.ext eD
      have ni1 : si.n = N.vs.length := by have := oi.1; simp at this; omega
      have no1 : so.n = N.vs.length := by have := oo.1; simp at this; omega
      have np1 : sp.n = N.as.length := by have := op.1; rw [cells2_len, plc_len] at this; omega
      have gi : (g : Int) < si.n := by omega
      have fo' : (f : Int) < so.n := by omega
      have pi' : (i : Int) < sp.n := by omega
      have cI := oi.cell (rowQ_get gv)
      have cO := oo.cell (rowQ_get fv)
      have qI := q.own false g gv
      have qO := q.own true f fv
      have nI := qI.1
      have nO' := qO.1
      rw [ints64_len, Nat.mul_one] at nI nO'
      have hB : cntB N.as i i = (Q false g).n := by
        rw [← nI]
        show _ = (insO (N.as.take i) g).length
        rw [insO_lenN, cntB_insN hg]
      have hA2 : cntA N.as i i = (Q true f).n := by
        rw [← nO']
        show _ = (outsO (N.as.take i) f).length
        rw [outsO_lenN, cntA_outsN hf]
      have leB := cntB_le (as := N.as) (a := i) (n := i)
      have leA := cntA_le (as := N.as) (a := i) (n := i)
      simp [bp3.hc, bD.hc, sem_idxa oi.ok, sem_idxa oo.ok, sem_idxa op.ok, gi, fo', pi', cI, cO]
      refine stSpan op (k := i * 2) rfl (by rw [cells2_len, plc_len]; omega) (by simp) ?_
      intro h4 op m4
      have z4 := m4.size
      have op : Own h4 2 sp (cells2 (plc N.as (i + 1))) := by
        rw [← plc_step ci (a := ((Q false g).n : Int)) (b := ((Q true f).n : Int)) (by rw [hB]) (by rw [hA2]), cells2_splice (by simpa using ci)]
        exact op
      have oi := oi.mod m4 (fun _ hj => by omega)
      have oo := oo.mod m4 (fun _ hj => by omega)
      have q := q.mod m4 (fun b hb => by omega)
      have bp4 := m4.blk bp3 (by omega)
      have bD4 := m4.blk bD (by omega)
      have cI := oi.cell (rowQ_get gv)
      simp [bp4.hc, bD4.hc, sem_idxa oi.ok, gi, cI, ef_bslice1_int]
      intro t
      have e5 : Ext h4 (h4.push (.cells #[.int .i64 i] t)) := Mod.push
      have bp5 := bp4.ext e5
      have bD5 := bD4.ext e5
      have cI5 := e5.hc cI (fun h => h)
      simp [bp5.hc, bD5.hc, sem_idxa oi.ok, gi, cI5]
      refine ef_append1 rfl (q.own false g gv) (by omega) (by omega) ?_
      intro s' h6 os hns m6 hs6
      have z6 := m6.size
      have qf := q.fr false g gv
      have bp6 := m6.blk bp4 (fun hj => by have := qf hj.1; omega)
      have bD6 := m6.blk bD4 (fun hj => by have := ltQ false g gv hj.1; have := hj.2; omega)
      have oi := oi.mod m6 (fun _ hj => by have := qf hj.1; have := hj.2; omega)
      have oo := oo.mod m6 (fun _ hj => by have := qf hj.1; have := hj.2; omega)
      have op := op.mod m6 (fun _ hj => by have := qf hj.1; have := hj.2; omega)
      have q := q.step (x := false) (l' := fun y => if y = false then N.as.take (i + 1) else N.as.take i) gv (by omega) (by
        have : ints64 (ioO false (if false = false then N.as.take (i + 1) else N.as.take i) g) = ints64 (ioO false (N.as.take i) g) ++ [.int .i64 i] := by
          simp only [if_true, ioO, Bool.false_eq_true, if_false, insO]
          rw [idxF_snoc ci]
          simp [hg, ints64]
        rw [this]
        exact os) m6 hs6 (fun y v hv hne => by
        cases y with
        | true => rfl
        | false =>
          have : v ≠ g := hne.resolve_left (by simp)
          simp only [if_true, ioO, Bool.false_eq_true, if_false, insO]
          exact idxF_same ci (by simp [hg]; omega))
      simp [bp6.hc, bD6.hc, sem_idxa oi.ok, gi]
      refine stN oi (k := g) (by simpa using gv) ?_
      intro h7 oi m7
      rw [rowQ_set] at oi
      have z7 := m7.size
      have hs6' : s'.nl = false → hG.size ≤ s'.b := by
        intro hn
        rcases hs6 with ⟨e1, e2⟩ | ⟨e1, _⟩
        · rw [e1]; exact qf (by rw [← e2]; exact hn)
        · omega
      have oo := oo.mod m7 (fun _ hj => by omega)
      have op := op.mod m7 (fun _ hj => by omega)
      have q := q.mod m7 (fun b hb => by omega)
      have bp7 := m7.blk bp6 (by omega)
      have bD7 := m7.blk bD6 (by omega)
      have cO := oo.cell (rowQ_get fv)
      simp [bp7.hc, bD7.hc, sem_idxa oo.ok, fo', cO, ef_bslice1_int]
      intro t
      have e8 : Ext h7 (h7.push (.cells #[.int .i64 i] t)) := Mod.push
      have bp8 := bp7.ext e8
      have bD8 := bD7.ext e8
      have cO8 := e8.hc cO (fun h => h)
      simp [bp8.hc, bD8.hc, sem_idxa oo.ok, fo', cO8]
      have qT := q.own true f fv
      have qe : (if true = false ∧ f = g then s' else Q true f) = Q true f := by simp
      simp only [qe] at qT
      refine ef_append1 rfl qT (by omega) (by omega) ?_
      intro s'' h9 os2 hns2 m9 hs9
      have z9 := m9.size
      have qf2 := q.fr true f fv
      simp only [qe] at qf2
      have bp9 := m9.blk bp7 (fun hj => by have := qf2 hj.1; omega)
      have bD9 := m9.blk bD7 (fun hj => by have := ltQ true f fv hj.1; have := hj.2; omega)
      have oi := oi.mod m9 (fun _ hj => by have := qf2 hj.1; have := hj.2; omega)
      have oo := oo.mod m9 (fun _ hj => by have := qf2 hj.1; have := hj.2; omega)
      have op := op.mod m9 (fun _ hj => by have := qf2 hj.1; have := hj.2; omega)
      have q := q.step (x := true) (l' := fun _ => N.as.take (i + 1)) fv (by omega) (by
        have : ints64 (ioO true (N.as.take (i + 1)) f) = ints64 (ioO true (N.as.take i) f) ++ [.int .i64 i] := by
          simp only [ioO, if_true, outsO]
          rw [idxF_snoc ci]
          simp [hf, ints64]
        rw [this]
        exact os2) (by simpa only [qe] using m9) (by simpa only [qe] using hs9) (fun y v hv hne => by
        cases y with
        | false => rfl
        | true =>
          have : v ≠ f := hne.resolve_left (by simp)
          simp only [ioO, if_true, outsO, Bool.true_eq_false, if_false]
          exact idxF_same ci (by simp [hf]; omega))
      simp [bp9.hc, bD9.hc, sem_idxa oo.ok, fo']
      refine stN oo (k := f) (by simpa using fv) ?_
      intro h10 oo m10
      rw [rowQ_set] at oo
      have hs9' : s''.nl = false → hG.size ≤ s''.b := by
        intro hn
        rcases hs9 with ⟨e1, e2⟩ | ⟨e1, _⟩
        · rw [e1]; exact qf2 (by rw [← e2]; exact hn)
        · omega
      have oi := oi.mod m10 (fun _ hj => by omega)
      have op := op.mod m10 (fun _ hj => by omega)
      have q := q.mod m10 (fun b hb => by omega)
      simp [w1]
      have mm : Mod (fun j => j = si.b ∨ j = so.b ∨ j = sp.b) hG h10 := by
        refine ((((((m2.trans (eD.mono fun _ _ h => h.elim)).trans (m4.mono fun _ _ h => .inr (.inr h))).then m6 (fun j hj hb => ?_)).trans (m7.mono fun _ _ h => .inl h)).then m9 (fun j hj hb => ?_)).trans (m10.mono fun _ _ h => .inr (.inl h)))
        · have := qf hb.1; have := hb.2; omega
        · have := qf2 hb.1; have := hb.2; omega
      refine ⟨⟨i + 1, fun y v => if y = true ∧ v = f then s'' else if y = false ∧ v = g then s' else Q y v, _, _, _, _, rfl, by omega, ?_, ?_, op, q, mm⟩, by simp [argI]; omega⟩
      · simpa using oi
      · simpa using oo
    have c' : ¬ (i : Int) < sa.n := by omega
    obtain rfl : i = sa.n := by omega
    have htk : N.as.take sa.n = N.as := List.take_of_length_le (by omega)
    simp only [htk] at q
    rw [← la] at op
    simp [c']
    have no2 := no.ext (eA.trans xA2)
    have ni1 : si.n = N.vs.length := by have := oi.1; simp at this; omega
    have lq : ∀ x v, v < N.vs.length → (Q x v).nl = false → hG.size ≤ (Q x v).b ∧ (Q x v).b < h2.size := fun x v hv hn => ⟨q.fr x v hv hn, (q.own x v hv).lt hn⟩
    have lrow : ∀ q' ∈ P, q'.1.cs ≠ [] → q'.2.b < h.size := fun q' hq hne => (no.row q' hq).lt hne
    refine hr h2 p (fun b => lo ≤ b ∧ b < h2.size) (eA.trans xA2) ⟨sv, sa, st, si, so, sp, P, Q, ?_⟩ (fun b hb => hb.1)
    have nrest : ∀ (b : Nat), b < h.size → lo ≤ b → (sv.nl = false → b ≠ sv.b) → (∀ q' ∈ P, q'.1.cs ≠ [] → b ≠ q'.2.b) → ¬ gRest p sv si so sp Q N.vs.length P b := by
      intro b h1 _ h3 h4 hb
      rcases hb with hb | ⟨hn, hb⟩ | hb | hb | hb | ⟨x, v, hv, hn, hb⟩ | ⟨q', hq, hne, hb⟩
      · omega
      · exact h3 hn hb
      · omega
      · omega
      · omega
      · have := lq x v hv hn; omega
      · exact h4 q' hq hne hb
    exact { blk := bp2
            o1 := no2.o1
            o2 := no2.o2
            o3 := no2.o3
            hP := no2.hP
            row := no2.row
            oi := oi
            oo := oo
            op := op
            oq := q.own
            inS := fun b hb => by
              rcases hb with hb | ⟨hn, hb⟩ | hb | hb | hb | ⟨x, v, hv, hn, hb⟩ | ⟨q', hq, hne, hb⟩
              · have := bp2.lt; subst hb; exact ⟨by omega, this⟩
              · have := no2.o1.lt hn; have := no2.f1 hn; subst hb; exact ⟨by omega, by omega⟩
              · have := oi.lt ni; subst hb; exact ⟨by omega, this⟩
              · have := oo.lt nO; subst hb; exact ⟨by omega, this⟩
              · have := op.lt np; subst hb; exact ⟨by omega, this⟩
              · have := lq x v hv hn; subst hb; exact ⟨by omega, by omega⟩
              · have := (no2.fr q' hq hne).1; have := lrow q' hq hne; have := eA.size; have := xA2.size; subst hb; exact ⟨by omega, by omega⟩
            e2 := fun hn => by
              have h1 := no.o2.lt hn
              have h2' := no.f2 hn
              exact ⟨⟨h2', by omega⟩, nrest _ h1 h2' (fun hs e => no.d12 hs hn e.symm) (fun q' hq hne e => (no.fr q' hq hne).2.2.1 hn e.symm)⟩
            e3 := fun hn => by
              have h1 := no.o3.lt hn
              have h2' := no.f3 hn
              exact ⟨⟨h2', by omega⟩, nrest _ h1 h2' (fun hs e => no.d13 hs hn e.symm) (fun q' hq hne e => (no.fr q' hq hne).2.2.2 hn e.symm)⟩
            d23 := no.d23
            lt := fun b hb => hb.2 }
  simp only [S_graph_build, Stmt.rest] at cont
  simp [bA.hc, rd_blk bA]
  refine ⟨?_, ?_⟩
  · refine ef_makeN (n := sv.n) (bytes := 24) (by omega) (by omega) rfl ?_
    intro bi k0 gi oi e0 li
    rw [zeros_one'] at oi
    have c_k0 : ∀ g, Ext g hA' → Ext g k0 := fun g e => Mod.trans e e0
    have z0 := e0.size
    simp (config := { maxDischargeDepth := 60 }) [bA.sk, bA.rk, sem_build_gr, c_k0]
    refine ⟨?_, ?_⟩
    · refine ef_makeN (n := sv.n) (bytes := 24) (by omega) (by omega) rfl ?_
      intro bo k1 go oo e1 lo
      rw [zeros_one'] at oo
      have c_k1 : ∀ g, Ext g k0 → Ext g k1 := fun g e => Mod.trans e e1
      have z1 := e1.size
      simp (config := { maxDischargeDepth := 60 }) [bA.sk, bA.rk, sem_build_gr, c_k0, c_k1]
      refine ef_makeN (n := sa.n) (bytes := 16) (by omega) (by omega) rfl ?_
      intro bp_ k2 gp op e2 lp
      rw [zeros_two] at op
      have c_k2 : ∀ g, Ext g k1 → Ext g k2 := fun g e => Mod.trans e e2
      have z2 := e2.size
      simp (config := { maxDischargeDepth := 60 }) [bA.sk, bA.rk, sem_build_gr, c_k0, c_k1, c_k2]
      refine ef_new_box ?_
      intro p k3 gp bp e3
      have z3 := e3.size
      have lp := bp.lt
      simp [-SeqK_ap]
      rw [SeqK_ap]
      exact cont p k3 (Sl.at bi sv.n sv.n) (Sl.at bo sv.n sv.n) (Sl.at bp_ sa.n sa.n) (((e0.trans e1).trans e2).trans e3) bp (oi.ext' ((e1.trans e2).trans e3)) (oo.ext' (e2.trans e3)) (op.ext' e3) rfl rfl rfl (by simp; omega) (by simp; omega) (by simp; omega) (by omega) (by simp; omega) (by simp; omega) (by simp; omega) (by simp; omega) (by simp; omega) (by simp; omega)
    · refine ef_makeN (n := sa.n) (bytes := 16) (by omega) (by omega) rfl ?_
      intro bp_ k1 gp op e1 lp
      rw [zeros_two] at op
      have c_k1 : ∀ g, Ext g k0 → Ext g k1 := fun g e => Mod.trans e e1
      have z1 := e1.size
      simp (config := { maxDischargeDepth := 60 }) [bA.sk, bA.rk, sem_build_gr, c_k0, c_k1]
      refine ef_makeN (n := sv.n) (bytes := 24) (by omega) (by omega) rfl ?_
      intro bo k2 go oo e2 lo
      rw [zeros_one'] at oo
      have c_k2 : ∀ g, Ext g k1 → Ext g k2 := fun g e => Mod.trans e e2
      have z2 := e2.size
      simp (config := { maxDischargeDepth := 60 }) [bA.sk, bA.rk, sem_build_gr, c_k0, c_k1, c_k2]
      refine ef_new_box ?_
      intro p k3 gp bp e3
      have z3 := e3.size
      have lp := bp.lt
      simp [-SeqK_ap]
      rw [SeqK_ap]
      exact cont p k3 (Sl.at bi sv.n sv.n) (Sl.at bo sv.n sv.n) (Sl.at bp_ sa.n sa.n) (((e0.trans e1).trans e2).trans e3) bp (oi.ext' ((e1.trans e2).trans e3)) (oo.ext' e3) (op.ext' (e2.trans e3)) rfl rfl rfl (by simp; omega) (by simp; omega) (by simp; omega) (by omega) (by simp; omega) (by simp; omega) (by simp; omega) (by simp; omega) (by simp; omega) (by simp; omega)
  · refine ⟨?_, ?_⟩
    · refine ef_makeN (n := sv.n) (bytes := 24) (by omega) (by omega) rfl ?_
      intro bo k0 go oo e0 lo
      rw [zeros_one'] at oo
      have c_k0 : ∀ g, Ext g hA' → Ext g k0 := fun g e => Mod.trans e e0
      have z0 := e0.size
      simp (config := { maxDischargeDepth := 60 }) [bA.sk, bA.rk, sem_build_gr, c_k0]
      refine ⟨?_, ?_⟩
      · refine ef_makeN (n := sv.n) (bytes := 24) (by omega) (by omega) rfl ?_
        intro bi k1 gi oi e1 li
        rw [zeros_one'] at oi
        have c_k1 : ∀ g, Ext g k0 → Ext g k1 := fun g e => Mod.trans e e1
        have z1 := e1.size
        simp (config := { maxDischargeDepth := 60 }) [bA.sk, bA.rk, sem_build_gr, c_k0, c_k1]
        refine ef_makeN (n := sa.n) (bytes := 16) (by omega) (by omega) rfl ?_
        intro bp_ k2 gp op e2 lp
        rw [zeros_two] at op
        have c_k2 : ∀ g, Ext g k1 → Ext g k2 := fun g e => Mod.trans e e2
        have z2 := e2.size
        simp (config := { maxDischargeDepth := 60 }) [bA.sk, bA.rk, sem_build_gr, c_k0, c_k1, c_k2]
        refine ef_new_box ?_
        intro p k3 gp bp e3
        have z3 := e3.size
        have lp := bp.lt
        simp [-SeqK_ap]
        rw [SeqK_ap]
        exact cont p k3 (Sl.at bi sv.n sv.n) (Sl.at bo sv.n sv.n) (Sl.at bp_ sa.n sa.n) (((e0.trans e1).trans e2).trans e3) bp (oi.ext' (e2.trans e3)) (oo.ext' ((e1.trans e2).trans e3)) (op.ext' e3) rfl rfl rfl (by simp; omega) (by simp; omega) (by simp; omega) (by omega) (by simp; omega) (by simp; omega) (by simp; omega) (by simp; omega) (by simp; omega) (by simp; omega)
      · refine ef_makeN (n := sa.n) (bytes := 16) (by omega) (by omega) rfl ?_
        intro bp_ k1 gp op e1 lp
        rw [zeros_two] at op
        have c_k1 : ∀ g, Ext g k0 → Ext g k1 := fun g e => Mod.trans e e1
        have z1 := e1.size
        simp (config := { maxDischargeDepth := 60 }) [bA.sk, bA.rk, sem_build_gr, c_k0, c_k1]
        refine ef_makeN (n := sv.n) (bytes := 24) (by omega) (by omega) rfl ?_
        intro bi k2 gi oi e2 li
        rw [zeros_one'] at oi
        have c_k2 : ∀ g, Ext g k1 → Ext g k2 := fun g e => Mod.trans e e2
        have z2 := e2.size
        simp (config := { maxDischargeDepth := 60 }) [bA.sk, bA.rk, sem_build_gr, c_k0, c_k1, c_k2]
        refine ef_new_box ?_
        intro p k3 gp bp e3
        have z3 := e3.size
        have lp := bp.lt
        simp [-SeqK_ap]
        rw [SeqK_ap]
        exact cont p k3 (Sl.at bi sv.n sv.n) (Sl.at bo sv.n sv.n) (Sl.at bp_ sa.n sa.n) (((e0.trans e1).trans e2).trans e3) bp (oi.ext' e3) (oo.ext' ((e1.trans e2).trans e3)) (op.ext' (e2.trans e3)) rfl rfl rfl (by simp; omega) (by simp; omega) (by simp; omega) (by omega) (by simp; omega) (by simp; omega) (by simp; omega) (by simp; omega) (by simp; omega) (by simp; omega)
    · refine ef_makeN (n := sa.n) (bytes := 16) (by omega) (by omega) rfl ?_
      intro bp_ k0 gp op e0 lp
      rw [zeros_two] at op
      have c_k0 : ∀ g, Ext g hA' → Ext g k0 := fun g e => Mod.trans e e0
      have z0 := e0.size
      simp (config := { maxDischargeDepth := 60 }) [bA.sk, bA.rk, sem_build_gr, c_k0]
      refine ⟨?_, ?_⟩
      · refine ef_makeN (n := sv.n) (bytes := 24) (by omega) (by omega) rfl ?_
        intro bi k1 gi oi e1 li
        rw [zeros_one'] at oi
        have c_k1 : ∀ g, Ext g k0 → Ext g k1 := fun g e => Mod.trans e e1
        have z1 := e1.size
        simp (config := { maxDischargeDepth := 60 }) [bA.sk, bA.rk, sem_build_gr, c_k0, c_k1]
        refine ef_makeN (n := sv.n) (bytes := 24) (by omega) (by omega) rfl ?_
        intro bo k2 go oo e2 lo
        rw [zeros_one'] at oo
        have c_k2 : ∀ g, Ext g k1 → Ext g k2 := fun g e => Mod.trans e e2
        have z2 := e2.size
        simp (config := { maxDischargeDepth := 60 }) [bA.sk, bA.rk, sem_build_gr, c_k0, c_k1, c_k2]
        refine ef_new_box ?_
        intro p k3 gp bp e3
        have z3 := e3.size
        have lp := bp.lt
        simp [-SeqK_ap]
        rw [SeqK_ap]
        exact cont p k3 (Sl.at bi sv.n sv.n) (Sl.at bo sv.n sv.n) (Sl.at bp_ sa.n sa.n) (((e0.trans e1).trans e2).trans e3) bp (oi.ext' (e2.trans e3)) (oo.ext' e3) (op.ext' ((e1.trans e2).trans e3)) rfl rfl rfl (by simp; omega) (by simp; omega) (by simp; omega) (by omega) (by simp; omega) (by simp; omega) (by simp; omega) (by simp; omega) (by simp; omega) (by simp; omega)
      · refine ef_makeN (n := sv.n) (bytes := 24) (by omega) (by omega) rfl ?_
        intro bo k1 go oo e1 lo
        rw [zeros_one'] at oo
        have c_k1 : ∀ g, Ext g k0 → Ext g k1 := fun g e => Mod.trans e e1
        have z1 := e1.size
        simp (config := { maxDischargeDepth := 60 }) [bA.sk, bA.rk, sem_build_gr, c_k0, c_k1]
        refine ef_makeN (n := sv.n) (bytes := 24) (by omega) (by omega) rfl ?_
        intro bi k2 gi oi e2 li
        rw [zeros_one'] at oi
        have c_k2 : ∀ g, Ext g k1 → Ext g k2 := fun g e => Mod.trans e e2
        have z2 := e2.size
        simp (config := { maxDischargeDepth := 60 }) [bA.sk, bA.rk, sem_build_gr, c_k0, c_k1, c_k2]
        refine ef_new_box ?_
        intro p k3 gp bp e3
        have z3 := e3.size
        have lp := bp.lt
        simp [-SeqK_ap]
        rw [SeqK_ap]
        exact cont p k3 (Sl.at bi sv.n sv.n) (Sl.at bo sv.n sv.n) (Sl.at bp_ sa.n sa.n) (((e0.trans e1).trans e2).trans e3) bp (oi.ext' e3) (oo.ext' (e2.trans e3)) (op.ext' ((e1.trans e2).trans e3)) rfl rfl rfl (by simp; omega) (by simp; omega) (by simp; omega) (by omega) (by simp; omega) (by simp; omega) (by simp; omega) (by simp; omega) (by simp; omega) (by simp; omega)
end
end Go.Rm

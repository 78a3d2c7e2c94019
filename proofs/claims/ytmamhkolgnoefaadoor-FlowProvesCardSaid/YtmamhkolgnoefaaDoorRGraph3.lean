import Derived.Test.YtmamhkolgnoefaaDoorRGraph2

/- Graphs in memory; build. -/
set_option linter.unusedSimpArgs false
set_option linter.unusedVariables false
namespace Go.Rm

-- rows of two cells
def cells2 (l : List (Value × Value)) : List Value := l.flatMap fun t => [t.1, t.2]
theorem cells2_len {l : List (Value × Value)} : (cells2 l).length = l.length * 2 := by
  induction l with
  | nil => rfl
  | cons t r ih => simp only [cells2, List.flatMap_cons, List.length_append, List.length_cons, List.length_nil] at ih ⊢; omega
theorem cells2_get {l : List (Value × Value)} : ∀ {i : Nat} (hi : i < l.length), (cells2 l)[i * 2]? = some l[i].1 ∧ (cells2 l)[i * 2 + 1]? = some l[i].2 := by
  induction l with
  | nil => intro i hi; simp at hi
  | cons t r ih =>
    intro i hi
    have e : cells2 (t :: r) = t.1 :: t.2 :: cells2 r := rfl
    rw [e]
    cases i with
    | zero => simp
    | succ i =>
      have := ih (i := i) (by simpa using hi)
      have q0 : (i + 1) * 2 = i * 2 + 1 + 1 := by omega
      have q1 : (i + 1) * 2 + 1 = i * 2 + 1 + 1 + 1 := by omega
      rw [q1, q0]
      simp only [List.getElem?_cons_succ, List.getElem_cons_succ]
      exact this
/-- the places of the arcs, of the first i of them -/
def plc (as : List Tri) (i : Nat) : List (Value × Value) := (List.range as.length).map fun j => if j < i then (.int .i64 (cntB as j j : Nat), .int .i64 (cntA as j j : Nat)) else (.int .i64 0, .int .i64 0)
@[simp] theorem plc_len {as : List Tri} {i : Nat} : (plc as i).length = as.length := by simp [plc]
theorem plc_at {as : List Tri} {j : Nat} (hj : j < as.length) : (plc as as.length)[j]'(by simpa using hj) = (.int .i64 (cntB as j j : Nat), .int .i64 (cntA as j j : Nat)) := by
  simp [plc, hj]

/-- the arcs that end (x: begin) at a vertex -/
def ioO (x : Bool) (as : List Tri) (v : Nat) : List Int := if x then outsO as v else insO as v
def rowQ (nv : Nat) (q : Nat → Sl) : List Value := (List.range nv).map fun v => (q v).v
@[simp] theorem rowQ_len {nv : Nat} {q : Nat → Sl} : (rowQ nv q).length = nv := by simp [rowQ]
structure QOK (lo : Nat) (h : Heap) (nv : Nat) (Q : Bool → Nat → Sl) (l : Bool → List Tri) : Prop where
  own : ∀ x v, v < nv → Own h 1 (Q x v) (ints64 (ioO x (l x) v))
  fr : ∀ x v, v < nv → (Q x v).nl = false → lo ≤ (Q x v).b
  dj : ∀ x u y v, u < nv → v < nv → (x ≠ y ∨ u ≠ v) → (Q x u).nl = false → (Q y v).nl = false → (Q x u).b ≠ (Q y v).b

section
variable {Y : Sys} {h h' : Heap}

theorem QOK.mod {S : Nat → Prop} {lo nv : Nat} {Q : Bool → Nat → Sl} {l : Bool → List Tri} (q : QOK lo h nv Q l) (m : Mod S h h') (hs : ∀ b, S b → b < lo) : QOK lo h' nv Q l :=
  ⟨fun x v hv => (q.own x v hv).mod m fun hn hb => by have := hs _ hb; have := q.fr x v hv hn; omega, q.fr, q.dj⟩
theorem QOK.ext {lo nv : Nat} {Q : Bool → Nat → Sl} {l : Bool → List Tri} (q : QOK lo h nv Q l) (m : Ext h h') : QOK lo h' nv Q l := q.mod m fun _ h => h.elim
/-- one row grows -/
theorem QOK.step {lo nv t : Nat} {Q : Bool → Nat → Sl} {l l' : Bool → List Tri} {x : Bool} {s' : Sl} (q : QOK lo h nv Q l) (ht : t < nv) (hlo : lo ≤ h.size) (o : Own h' 1 s' (ints64 (ioO x (l' x) t))) (m : Mod (fun j => (Q x t).nl = false ∧ j = (Q x t).b) h h')
    (hs : (s'.b = (Q x t).b ∧ s'.nl = (Q x t).nl) ∨ (h.size ≤ s'.b ∧ s'.nl = false)) (hl : ∀ y v, v < nv → (y ≠ x ∨ v ≠ t) → ioO y (l' y) v = ioO y (l y) v) :
    QOK lo h' nv (fun y v => if y = x ∧ v = t then s' else Q y v) l' := by
  refine ⟨fun y v hv => ?_, fun y v hv hn => ?_, fun y u z v hu hv hne h1 h2 => ?_⟩
  · by_cases c : y = x ∧ v = t
    · obtain ⟨rfl, rfl⟩ := c
      simp only [and_self, if_true]
      exact o
    · simp only [if_neg c]
      have hc : y ≠ x ∨ v ≠ t := by
        rcases Decidable.em (y = x) with e | e
        · exact .inr fun e2 => c ⟨e, e2⟩
        · exact .inl e
      rw [hl y v hv hc]
      exact (q.own y v hv).mod m fun hn hb => q.dj y v x t hv ht hc hn hb.1 hb.2
  · by_cases c : y = x ∧ v = t
    · simp only [if_pos c] at hn ⊢
      rcases hs with ⟨e1, e2⟩ | ⟨e1, _⟩
      · rw [e1]; exact q.fr x t ht (by rw [← e2]; exact hn)
      · omega
    · simp only [if_neg c] at hn ⊢
      exact q.fr y v hv hn
  · have lt : ∀ y v, v < nv → (Q y v).nl = false → (Q y v).b < h.size := fun y v hv hn => (q.own y v hv).lt hn
    by_cases c : y = x ∧ u = t
    · by_cases d : z = x ∧ v = t
      · obtain ⟨rfl, rfl⟩ := c
        obtain ⟨rfl, rfl⟩ := d
        rcases hne with e | e <;> exact absurd rfl e
      · simp only [if_pos c] at h1 ⊢
        simp only [if_neg d] at h2 ⊢
        obtain ⟨rfl, rfl⟩ := c
        rcases hs with ⟨e1, e2⟩ | ⟨e1, _⟩
        · rw [e1]; exact q.dj y u z v hu hv hne (by rw [← e2]; exact h1) h2
        · have := lt z v hv h2; omega
    · by_cases d : z = x ∧ v = t
      · simp only [if_neg c] at h1 ⊢
        simp only [if_pos d] at h2 ⊢
        obtain ⟨rfl, rfl⟩ := d
        rcases hs with ⟨e1, e2⟩ | ⟨e1, _⟩
        · rw [e1]; exact q.dj y u z v hu hv hne h1 (by rw [← e2]; exact h2)
        · have := lt y u hu h1; omega
      · simp only [if_neg c] at h1 ⊢
        simp only [if_neg d] at h2 ⊢
        exact q.dj y u z v hu hv hne h1 h2

/-- what of a graph's memory is never stored into -/
def gRest (p : Nat) (s1 si so sp : Sl) (Q : Bool → Nat → Sl) (nv : Nat) (P : List (Tab × Sl)) (b : Nat) : Prop :=
  b = p ∨ (s1.nl = false ∧ b = s1.b) ∨ b = si.b ∨ b = so.b ∨ b = sp.b ∨ (∃ x v, v < nv ∧ (Q x v).nl = false ∧ b = (Q x v).b) ∨ ∃ q ∈ P, q.1.cs ≠ [] ∧ b = q.2.b

structure GraphD (h : Heap) (p : Nat) (N : NetD) (S : Nat → Prop) (s1 s2 s3 si so sp : Sl) (P : List (Tab × Sl)) (Q : Bool → Nat → Sl) : Prop where
  blk : Blk h p #[s1.v, s2.v, s3.v, si.v, so.v, sp.v]
  o1 : Own h 3 s1 (cells3 (N.vs.map triV))
  o2 : Own h 3 s2 (cells3 (N.as.map triV))
  o3 : Own h 3 s3 (cells3 (P.map tabP))
  hP : P.map Prod.fst = N.ts
  row : ∀ q ∈ P, Row64 h q.2 q.1.cs
  oi : Own h 1 si (rowQ N.vs.length (Q false))
  oo : Own h 1 so (rowQ N.vs.length (Q true))
  op : Own h 2 sp (cells2 (plc N.as N.as.length))
  oq : ∀ x v, v < N.vs.length → Own h 1 (Q x v) (ints64 (ioO x N.as v))
  inS : ∀ b, gRest p s1 si so sp Q N.vs.length P b → S b
  e2 : s2.nl = false → S s2.b ∧ ¬ gRest p s1 si so sp Q N.vs.length P s2.b
  e3 : s3.nl = false → S s3.b ∧ ¬ gRest p s1 si so sp Q N.vs.length P s3.b
  d23 : s2.nl = false → s3.nl = false → s2.b ≠ s3.b
  lt : ∀ b, S b → b < h.size
/-- a graph that is the net N, in the blocks of S -/
def GraphA (h : Heap) (p : Nat) (N : NetD) (S : Nat → Prop) : Prop := ∃ s1 s2 s3 si so sp P Q, GraphD h p N S s1 s2 s3 si so sp P Q

theorem GraphD.mod {S' : Nat → Prop} {p : Nat} {N : NetD} {S : Nat → Prop} {s1 s2 s3 si so sp : Sl} {P : List (Tab × Sl)} {Q : Bool → Nat → Sl} (g : GraphD h p N S s1 s2 s3 si so sp P Q) (m : Mod S' h h') (hd : ∀ b, S b → ¬ S' b) : GraphD h' p N S s1 s2 s3 si so sp P Q :=
  have hi := fun b hb => hd b (g.inS b hb)
  { g with
    blk := m.blk g.blk (hi _ (.inl rfl))
    o1 := g.o1.mod m fun hn => hi _ (.inr (.inl ⟨hn, rfl⟩))
    o2 := g.o2.mod m fun hn => hd _ (g.e2 hn).1
    o3 := g.o3.mod m fun hn => hd _ (g.e3 hn).1
    row := fun q hq => (g.row q hq).mod m fun hne => hi _ (.inr (.inr (.inr (.inr (.inr (.inr ⟨q, hq, hne, rfl⟩))))))
    oi := g.oi.mod m fun _ => hi _ (.inr (.inr (.inl rfl)))
    oo := g.oo.mod m fun _ => hi _ (.inr (.inr (.inr (.inl rfl))))
    op := g.op.mod m fun _ => hi _ (.inr (.inr (.inr (.inr (.inl rfl)))))
    oq := fun x v hv => (g.oq x v hv).mod m fun hn => hi _ (.inr (.inr (.inr (.inr (.inr (.inl ⟨x, v, hv, hn, rfl⟩))))))
    lt := fun b hb => Nat.lt_of_lt_of_le (g.lt b hb) m.size }
theorem GraphA.mod {S' : Nat → Prop} {p : Nat} {N : NetD} {S : Nat → Prop} (g : GraphA h p N S) (m : Mod S' h h') (hd : ∀ b, S b → ¬ S' b) : GraphA h' p N S := by
  obtain ⟨s1, s2, s3, si, so, sp, P, Q, g⟩ := g
  exact ⟨s1, s2, s3, si, so, sp, P, Q, g.mod m hd⟩
theorem GraphA.ext {p : Nat} {N : NetD} {S : Nat → Prop} (g : GraphA h p N S) (m : Ext h h') : GraphA h' p N S := g.mod m fun _ _ h => h
theorem GraphA.lt {p : Nat} {N : NetD} {S : Nat → Prop} (g : GraphA h p N S) : ∀ b, S b → b < h.size := by
  obtain ⟨s1, s2, s3, si, so, sp, P, Q, g⟩ := g
  exact g.lt

@[simp] theorem sem_build_2i {z0 z1 : Value} {a b : Int} : IOp.sem Y h (.build #[z0, z1] [(0, 1), (1, 1)] [0, 1]) [.int .i64 a, .int .i64 b] = some (.agg #[.int .i64 a, .int .i64 b]) := sem_build2 rfl rfl

end
end Go.Rm

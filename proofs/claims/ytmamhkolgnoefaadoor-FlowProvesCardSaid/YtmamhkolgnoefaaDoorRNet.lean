import Derived.Test.YtmamhkolgnoefaaDoorRLaw2
import Derived.Test.YtmamhkolgnoefaaDoorRRef6a
import Derived.Test.YtmamhkolgnoefaaDoorSNums

/- Nets in memory: vertices, arcs, tables. Few. -/
set_option linter.unusedSimpArgs false
set_option linter.unusedVariables false
namespace Go.Rm

/-- three numbers: a vertex (X, Y, Type), an arc (From, To, W) -/
structure Tri where
  a : Int
  b : Int
  c : Int
deriving DecidableEq
/-- a table -/
structure Tab where
  i : Int
  o : Int
  cs : List Int
deriving DecidableEq
structure NetD where
  vs : List Tri
  as : List Tri
  ts : List Tab
deriving DecidableEq

def nthT (l : List Tri) (i : Nat) : Tri := l.getD i ⟨0, 0, 0⟩
def nthB (l : List Tab) (i : Nat) : Tab := l.getD i ⟨0, 0, []⟩
theorem nthT_eq {l : List Tri} {i : Nat} (hi : i < l.length) : nthT l i = l[i] := by simp [nthT, hi]
structure Row3 (h : Heap) (s : Sl) (l : List Tri) : Prop where
  ok : s.ok
  len : l.length = s.n
  v0 : ∀ i, i < l.length → hc h s.b (s.o + i * 3) = some (.int .i64 (nthT l i).a)
  v1 : ∀ i, i < l.length → hc h s.b (s.o + i * 3 + 1) = some (.int .i64 (nthT l i).b)
  v2 : ∀ i, i < l.length → hc h s.b (s.o + i * 3 + 2) = some (.int .i64 (nthT l i).c)
structure RowT (h : Heap) (s : Sl) (l : List Tab) : Prop where
  ok : s.ok
  len : l.length = s.n
  val : ∀ i, i < l.length → ∃ u : Sl, hc h s.b (s.o + i * 3) = some (.int .i64 (nthB l i).i) ∧ hc h s.b (s.o + i * 3 + 1) = some (.int .i64 (nthB l i).o) ∧ hc h s.b (s.o + i * 3 + 2) = some u.v ∧ Row64 h u (nthB l i).cs
def netV (sv sa st : Sl) : Value := .agg #[sv.v, sa.v, st.v]
structure NetH (h : Heap) (sv sa st : Sl) (N : NetD) : Prop where
  rv : Row3 h sv N.vs
  ra : Row3 h sa N.as
  rt : RowT h st N.ts

section
variable {Y : Sys} {h h' : Heap}

theorem Row3.ext {s : Sl} {l : List Tri} (r : Row3 h s l) (e : Ext h h') : Row3 h' s l :=
  ⟨r.ok, r.len, fun i hi => e.hc (r.v0 i hi) (fun h => h), fun i hi => e.hc (r.v1 i hi) (fun h => h), fun i hi => e.hc (r.v2 i hi) (fun h => h)⟩
theorem RowT.ext {s : Sl} {l : List Tab} (r : RowT h s l) (e : Ext h h') : RowT h' s l :=
  ⟨r.ok, r.len, fun i hi => by
    obtain ⟨u, h0, h1, h2, h3⟩ := r.val i hi
    exact ⟨u, e.hc h0 (fun h => h), e.hc h1 (fun h => h), e.hc h2 (fun h => h), h3.ext e⟩⟩
theorem NetH.ext {sv sa st : Sl} {N : NetD} (r : NetH h sv sa st N) (e : Ext h h') : NetH h' sv sa st N := ⟨r.rv.ext e, r.ra.ext e, r.rt.ext e⟩

theorem Row3.rd {s : Sl} {l : List Tri} (r : Row3 h s l) {i : Nat} (hi : i < l.length) : rd h s.b (s.o + i * 3) 3 = some [.int .i64 (nthT l i).a, .int .i64 (nthT l i).b, .int .i64 (nthT l i).c] := by
  refine rd_of (l := [.int .i64 (nthT l i).a, .int .i64 (nthT l i).b, .int .i64 (nthT l i).c]) (fun j v hj => ?_)
  match j with
  | 0 => simp at hj; subst hj; exact r.v0 i hi
  | 1 => simp at hj; subst hj; exact r.v1 i hi
  | 2 => simp at hj; subst hj; exact r.v2 i hi
  | j + 3 => simp at hj
theorem RowT.rd {s : Sl} {l : List Tab} (r : RowT h s l) {i : Nat} (hi : i < l.length) : ∃ u : Sl, rd h s.b (s.o + i * 3) 3 = some [.int .i64 (nthB l i).i, .int .i64 (nthB l i).o, u.v] ∧ hc h s.b (s.o + i * 3 + 2) = some u.v ∧ Row64 h u (nthB l i).cs := by
  obtain ⟨u, h0, h1, h2, h3⟩ := r.val i hi
  refine ⟨u, rd_of (l := [.int .i64 (nthB l i).i, .int .i64 (nthB l i).o, u.v]) (fun j v hj => ?_), h2, h3⟩
  match j with
  | 0 => simp at hj; subst hj; exact h0
  | 1 => simp at hj; subst hj; exact h1
  | 2 => simp at hj; subst hj; exact h2
  | j + 3 => simp at hj

end
end Go.Rm

/- Nets in memory: rows of three cells that one owns; To. -/
set_option linter.unusedSimpArgs false
set_option linter.unusedVariables false
namespace Go.Rm

def cells3 (l : List (Value × Value × Value)) : List Value := l.flatMap fun t => [t.1, t.2.1, t.2.2]
theorem cells3_len {l : List (Value × Value × Value)} : (cells3 l).length = l.length * 3 := by
  induction l with
  | nil => rfl
  | cons t r ih => simp only [cells3, List.flatMap_cons, List.length_append, List.length_cons, List.length_nil] at ih ⊢; omega
theorem cells3_get {l : List (Value × Value × Value)} : ∀ {i : Nat} (hi : i < l.length), (cells3 l)[i * 3]? = some l[i].1 ∧ (cells3 l)[i * 3 + 1]? = some l[i].2.1 ∧ (cells3 l)[i * 3 + 2]? = some l[i].2.2 := by
  induction l with
  | nil => intro i hi; simp at hi
  | cons t r ih =>
    intro i hi
    have e : cells3 (t :: r) = t.1 :: t.2.1 :: t.2.2 :: cells3 r := rfl
    rw [e]
    cases i with
    | zero => simp
    | succ i =>
      have := ih (i := i) (by simpa using hi)
      have q0 : (i + 1) * 3 = i * 3 + 1 + 1 + 1 := by omega
      have q1 : (i + 1) * 3 + 1 = i * 3 + 1 + 1 + 1 + 1 := by omega
      have q2 : (i + 1) * 3 + 2 = i * 3 + 2 + 1 + 1 + 1 := by omega
      rw [q1, q2, q0]
      simp only [List.getElem?_cons_succ, List.getElem_cons_succ]
      exact this

def triV (t : Tri) : Value × Value × Value := (.int .i64 t.a, .int .i64 t.b, .int .i64 t.c)
def tabP (p : Tab × Sl) : Value × Value × Value := (.int .i64 p.1.i, .int .i64 p.1.o, p.2.v)

section
variable {Y : Sys} {h h' : Heap}

theorem Own.n3 {s : Sl} {l : List (Value × Value × Value)} (o : Own h 3 s (cells3 l)) : l.length = s.n := by
  have := o.1
  rw [cells3_len] at this
  omega
theorem Row3.mod {S : Nat → Prop} {s : Sl} {l : List Tri} (r : Row3 h s l) (e : Mod S h h') (hs : l ≠ [] → ¬ S s.b) : Row3 h' s l :=
  ⟨r.ok, r.len, fun i hi => e.hc (r.v0 i hi) (hs (by intro e; rw [e] at hi; simp at hi)), fun i hi => e.hc (r.v1 i hi) (hs (by intro e; rw [e] at hi; simp at hi)), fun i hi => e.hc (r.v2 i hi) (hs (by intro e; rw [e] at hi; simp at hi))⟩
end
end Go.Rm

/- Nets in memory: To. -/
set_option linter.unusedSimpArgs false
set_option linter.unusedVariables false
namespace Go.Rm

section
variable {Y : Sys} {h h' : Heap}

end
end Go.Rm

/- What is wrong with a net, in plain words; the small functions of package net. -/
set_option linter.unusedSimpArgs false
set_option linter.unusedVariables false
namespace Go.Rm

def atW (p : ByteArray) (k : Int) (e : Int) : Wr := ([(p, k)], e)
def farB (x : Int) : Bool := decide (x < -1048576 ∨ 1048576 < x)
def vtxB (nv : Nat) (v : Int) : Bool := decide (0 ≤ v ∧ v < nv)
def tabWr (t : Tab) : Wr := tabW t.i t.o t.cs

def insN (as : List Tri) (v : Nat) : Nat := (as.filter fun a => a.b = (v : Int)).length
def outsN (as : List Tri) (v : Nat) : Nat := (as.filter fun a => a.a = (v : Int)).length
section
variable {Y : Sys} {h : Heap}

end
end Go.Rm

/- Package net: meet. -/
set_option linter.unusedSimpArgs false
set_option linter.unusedVariables false
namespace Go.Rm

/-- how many of the arcs end (begin) at each vertex -/
def insL (n : Nat) (as : List Tri) : List Int := (List.range n).map fun v => (insN as v : Int)
def outsL (n : Nat) (as : List Tri) : List Int := (List.range n).map fun v => (outsN as v : Int)
@[simp] theorem insL_len {n : Nat} {as : List Tri} : (insL n as).length = n := by simp [insL]
@[simp] theorem outsL_len {n : Nat} {as : List Tri} : (outsL n as).length = n := by simp [outsL]
section
variable {Y : Sys} {h : Heap}

theorem own_set64 {s : Sl} {cs : List Int} (o : Own h 1 s (ints64 cs)) {k : Nat} {y : Int} (hk : k < cs.length) :
    Own (hset h s.b (s.o + k) (.int .i64 y)) 1 s (ints64 (cs.set k y)) ∧ (hc h s.b (s.o + k)).isSome = true ∧ hfz h s.b (s.o + k) = false ∧ Mod (fun j => j = s.b) h (hset h s.b (s.o + k) (.int .i64 y)) ∧ s.nl = false := by
  have h1 := o.set (i := k) (v := .int .i64 y) (by simpa using hk)
  rw [ints64_set] at h1
  obtain ⟨arr, hb, hlt, hnl⟩ := o.blk (i := k) (by simpa using hk)
  refine ⟨h1, ?_, hb.hfz, Mod.set rfl, hnl⟩
  rw [hb.hc]
  simp [hlt]

end
end Go.Rm

/- Package net: Check. -/
set_option linter.unusedSimpArgs false
set_option linter.unusedVariables false
namespace Go.Rm

section
variable {Y : Sys} {h : Heap}

end
end Go.Rm

/- The document's nets: There, Place. -/
set_option linter.unusedSimpArgs false
set_option linter.unusedVariables false
namespace Go.Rm

/-- the place of a number in a row from place k on, or -1 -/
def placeF : Nat → List Int → Int → Int
  | _, [], _ => -1
  | k, x :: r, a => if x = a then k else placeF (k + 1) r a
theorem placeF_drop {l : List Int} {i : Nat} {a : Int} (hi : i < l.length) : placeF i (l.drop i) a = if nthI l i = a then (i : Int) else placeF (i + 1) (l.drop (i + 1)) a := by
  rw [List.drop_eq_getElem_cons hi, placeF]
  simp [nthI, hi]

section
variable {Y : Sys} {h : Heap}

def PlaceI (s : Sl) (cs : List Int) (a : Int) (h0 : Heap) (e : List Value) (h' : Heap) : Prop :=
  ∃ (i : Nat) (v4 v5 : Value), e = [s.v, .int .i64 a, .int .i64 0, .int .i64 i, v4, v5] ∧ i ≤ s.n ∧ placeF 0 cs a = placeF i (cs.drop i) a ∧ h' = h0

theorem rplace_spec (H : Y.Has F.rref6_Place S_rref6_Place) {s : Sl} {cs : List Int} (r : Row64 h s cs) (hbig : s.n ≤ 1000000) {a : Int} {R : Value → Heap → Prop} (hr : R (.int .i64 (placeF 0 cs a)) h) : CallP Y F.rref6_Place [s.v, .int .i64 a] h R := by
  have hl := r.len
  refine .of_has H rfl ?_
  simp [S_rref6_Place, FnS.wp]
  refine wp_loop' (PlaceI s cs a h) (fun e _ => s.n - argI e 3) ⟨0, _, _, rfl, by omega, by simp, rfl⟩ ?_
  rintro e h1 ⟨i, v4, v5, rfl, hi, hp, rfl⟩
  by_cases c : i < s.n
  · have c' : (i : Int) < s.n := by omega
    have w1 : IntKind.i64.wrap ((i : Int) + 1) = (i : Int) + 1 := i64_wrap (by omega)
    rw [placeF_drop (by omega)] at hp
    by_cases q : nthI cs i = a
    · have q' : (nthI cs i = a) = True := by simp [q]
      rw [if_pos q] at hp
      rw [hp] at hr
      simp [c', sem_idxa r.ok, r.at c, q']
      exact hr
    · rw [if_neg q] at hp
      simp [c', sem_idxa r.ok, r.at c, q, w1]
      exact ⟨⟨i + 1, _, _, rfl, by omega, hp, rfl⟩, by simp [argI]; omega⟩
  · have c' : ¬ (i : Int) < s.n := by omega
    rw [List.drop_eq_nil_of_le (by omega), placeF] at hp
    rw [hp] at hr
    simp [c']
    exact hr
end
end Go.Rm

/- The document's nets: Within. -/
set_option linter.unusedSimpArgs false
set_option linter.unusedVariables false
namespace Go.Rm

section
variable {Y : Sys} {h : Heap}

def partsL (ps : List (ByteArray × Int)) : List Value := ps.flatMap fun p => [.string p.1, .int .i64 p.2]
theorem partsL_len {ps : List (ByteArray × Int)} : (partsL ps).length = ps.length * 2 := by
  induction ps with
  | nil => rfl
  | cons t r ih => simp only [partsL, List.flatMap_cons, List.length_append, List.length_cons, List.length_nil] at ih ⊢; omega
theorem partsL_get {ps : List (ByteArray × Int)} : ∀ {i : Nat} {x : ByteArray × Int}, ps[i]? = some x → (partsL ps)[i * 2]? = some (.string x.1) ∧ (partsL ps)[i * 2 + 1]? = some (.int .i64 x.2) := by
  induction ps with
  | nil => intro i x hx; simp at hx
  | cons t r ih =>
    intro i x hx
    have e : partsL (t :: r) = .string t.1 :: .int .i64 t.2 :: partsL r := rfl
    rw [e]
    cases i with
    | zero => simp at hx; subst hx; simp
    | succ i =>
      have := ih (i := i) (x := x) (by simpa using hx)
      have q0 : (i + 1) * 2 = i * 2 + 1 + 1 := by omega
      have q1 : (i + 1) * 2 + 1 = i * 2 + 1 + 1 + 1 := by omega
      rw [q1, q0]
      simp only [List.getElem?_cons_succ]
      exact this
theorem PartsAt.rd {s : Sl} {ps : List (ByteArray × Int)} (p : PartsAt h s ps) : rd h s.b s.o (ps.length * 2) = some (partsL ps) := by
  have := rd_of (h := h) (b := s.b) (l := partsL ps) (o := s.o) fun j v hj => by
    have hlt : j < ps.length * 2 := by
      have := (List.getElem?_eq_some_iff.1 hj).1
      rwa [partsL_len] at this
    have hx : ps[j / 2]? = some ps[j / 2] := List.getElem?_eq_getElem (by omega)
    obtain ⟨g0, g1⟩ := partsL_get hx
    obtain ⟨k0, k1⟩ := p.p _ _ hx
    rcases Nat.mod_two_eq_zero_or_one j with m | m
    · have e : j = j / 2 * 2 := by omega
      rw [← e] at g0 k0
      rw [hj] at g0
      cases g0
      exact k0
    · have e : j = j / 2 * 2 + 1 := by omega
      rw [← e] at g1
      rw [hj] at g1
      cases g1
      rw [show s.o + j = s.o + j / 2 * 2 + 1 by omega]
      exact k1
  rwa [partsL_len] at this
end
end Go.Rm

/- The engine, part W: facts that hold for each later memory, in the form in which simp takes them. -/
set_option linter.unusedSimpArgs false
set_option linter.unusedVariables false
namespace Go.Rm
section
variable {Y : Sys} {h h' : Heap}
theorem Mod.rd {S : Nat → Prop} {b o n : Nat} {l : List Value} (e : Mod S h h') (hr : Rm.rd h b o n = some l) (hs : ¬ S b) : Rm.rd h' b o n = some l := by
  induction n generalizing o l with
  | zero => exact hr
  | succ n ih =>
    simp only [Rm.rd] at hr ⊢
    cases h1 : Rm.hc h b o with
    | none => simp [h1] at hr
    | some v =>
      rw [h1] at hr
      simp only [Option.bind_some] at hr
      cases h2 : Rm.rd h b (o + 1) n with
      | none => simp [h2] at hr
      | some l' =>
        rw [h2] at hr
        rw [e.hc h1 hs, Option.bind_some, ih h2]
        exact hr
theorem Blk.sk {b : Nat} {c : Array Value} (hb : Blk h b c) (h' : Heap) (o : Nat) (e : Ext h h') : Rm.hc h' b o = c[o]? := (hb.ext e).hc
theorem Blk.rk {b : Nat} {c : Array Value} (hb : Blk h b c) (h' : Heap) (n : Nat) (e : Ext h h') (hn : c.size = n) : Rm.rd h' b 0 n = some c.toList := rd_blk (hb.ext e) hn
theorem Row64.sk {s : Sl} {cs : List Int} (r : Row64 h s cs) (h' : Heap) (i : Nat) (e : Ext h h') (hi : i < cs.length) : Rm.hc h' s.b (s.o + i) = some (.int .i64 (nthI cs i)) := (r.ext e).val i hi
theorem Row3.s0 {s : Sl} {l : List Tri} (r : Row3 h s l) (h' : Heap) (i : Nat) (e : Ext h h') (hi : i < l.length) : Rm.hc h' s.b (s.o + i * 3) = some (.int .i64 (nthT l i).a) := (r.ext e).v0 i hi
theorem Row3.s1 {s : Sl} {l : List Tri} (r : Row3 h s l) (h' : Heap) (i : Nat) (e : Ext h h') (hi : i < l.length) : Rm.hc h' s.b (s.o + i * 3 + 1) = some (.int .i64 (nthT l i).b) := (r.ext e).v1 i hi
theorem Row3.s2 {s : Sl} {l : List Tri} (r : Row3 h s l) (h' : Heap) (i : Nat) (e : Ext h h') (hi : i < l.length) : Rm.hc h' s.b (s.o + i * 3 + 2) = some (.int .i64 (nthT l i).c) := (r.ext e).v2 i hi
theorem Row3.sr {s : Sl} {l : List Tri} (r : Row3 h s l) (h' : Heap) (i : Nat) (e : Ext h h') (hi : i < l.length) : Rm.rd h' s.b (s.o + i * 3) 3 = some [.int .i64 (nthT l i).a, .int .i64 (nthT l i).b, .int .i64 (nthT l i).c] := (r.ext e).rd hi
theorem Mod.refl' {S : Nat → Prop} {h : Heap} : Mod S h h := Mod.refl h
attribute [simp] Mod.refl'

/-- a number is stored into a row of one's own -/
theorem st64 {K : Value → Heap → Prop} {s : Sl} {cs : List Int} (o : Own h 1 s (ints64 cs)) {k : Nat} {y : Int} (hk : k < cs.length)
    (hr : ∀ h', Own h' 1 s (ints64 (cs.set k y)) → Mod (fun j => j = s.b) h h' → K undef h') : StoreP h s.b (s.o + k) (.int .i64 y) K := by
  obtain ⟨a, b, c, d, _⟩ := own_set64 o hk (y := y)
  rw [StoreP.open]
  exact ⟨b, c, hr _ a d⟩
/-- a row of noughts is laid -/
theorem ef_make64 {K : Value → Heap → Prop} {n : Nat} {m : Int} (hn : n ≤ 1000000) (hm : m = n) (hr : ∀ (b : Nat) (h' : Heap), h.size ≤ b → Own h' 1 (Sl.at b n n) (ints64 (List.replicate n 0)) → Ext h h' → b < h'.size → K (.slice (some ⟨b, 0, none⟩) n n) h') :
    Ef.wp h K (.mkslice 1 8 #[.int .i64 0]) [.int .i64 m, .int .i64 m] := by
  subst hm
  rw [ef_mkslice]
  refine ⟨by omega, by omega, by omega, by omega, fun t => ?_⟩
  simp only [Int.toNat_natCast, Nat.mul_one, zeros_one]
  exact hr h.size _ (Nat.le_refl _) (own_zero (by omega)) Mod.push (by simp)
@[simp] theorem sem_build_sss {z0 z1 z2 : Value} {x y w : Option Addr} {n c n' c' n'' c'' : Nat} : IOp.sem Y h (.build #[z0, z1, z2] [(0, 1), (1, 1), (2, 1)] [0, 1, 2]) [.slice x n c, .slice y n' c', .slice w n'' c''] = some (.agg #[.slice x n c, .slice y n' c', .slice w n'' c'']) := sem_build3 rfl rfl rfl
theorem fold_writeA : ∀ (vs : List Value) (c : Array Value) (off j : Nat), (vs.zipIdx j).foldl (fun cs (x : Value × Nat) => cs.setIfInBounds (off + x.2) x.1) c = writeA c (off + j) vs := by
  intro vs
  induction vs with
  | nil => intro c off j; rfl
  | cons v r ih =>
    intro c off j
    rw [List.zipIdx_cons, List.foldl_cons, ih, writeA]
    rfl
theorem fill_all {sz : Nat} : ∀ (xs : List Value) (k : Nat) (c : Array Value), (∀ x ∈ xs, x.cells.size = sz) → c.size = (k + xs.length) * sz →
    Instr.fill (fun i => some (i * sz, sz)) c ((List.range' k xs.length).zip xs) = some (c.toList.take (k * sz) ++ xs.flatMap (fun x => x.cells.toList)).toArray := by
  intro xs
  induction xs with
  | nil =>
    intro k c _ hc
    simp only [List.length_nil, List.range'_zero, List.zip_nil_right, Instr.fill, List.flatMap_nil, List.append_nil]
    congr 1
    apply Array.ext'
    rw [List.take_of_length_le (by simp at hc ⊢; omega)]
  | cons x r ih =>
    intro k c hx hc
    have hxs := hx x (by simp)
    have hlen : (x :: r).length = r.length + 1 := rfl
    have hm : (k + (r.length + 1)) * sz = k * sz + sz + r.length * sz := by rw [Nat.add_mul, Nat.add_mul]; omega
    rw [hlen] at hc ⊢
    rw [List.range'_succ, List.zip_cons_cons, Instr.fill]
    have hcond : (decide (x.cells.size ≠ sz) || decide (k * sz + x.cells.size > c.size)) = false := by
      rw [hc, hm, hxs]; simp
    simp only [hcond, Bool.false_eq_true, if_false]
    have hw : (x.cells.zipIdx.foldl (fun cs (c, j) => cs.setIfInBounds (k * sz + j) c) c) = writeA c (k * sz) x.cells.toList := by
      rw [← Array.foldl_toList, Array.toList_zipIdx]
      exact fold_writeA x.cells.toList c (k * sz) 0
    rw [hw]
    have hle : k * sz + x.cells.toList.length ≤ c.size := by rw [hc, hm]; simp; omega
    have hwt := writeA_toList (vs := x.cells.toList) (c := c) (o := k * sz) hle
    have hws : (writeA c (k * sz) x.cells.toList).size = c.size := by
      have := congrArg List.length hwt
      simp only [Array.length_toList, List.length_append, List.length_take, List.length_drop] at this
      simp only [Array.length_toList] at hle
      rw [this]
      omega
    rw [ih (k + 1) _ (fun y hy => hx y (List.mem_cons_of_mem _ hy)) (by rw [hws, hc]; congr 1; omega), hwt]
    congr 2
    rw [List.flatMap_cons, ← List.append_assoc]
    congr 1
    have h1 : (k + 1) * sz = (c.toList.take (k * sz) ++ x.cells.toList).length := by
      rw [Nat.add_mul, List.length_append, List.length_take, Array.length_toList, Array.length_toList, hxs]
      rw [Nat.min_eq_left (by rw [hc, hm]; omega)]
      omega
    rw [h1]
    exact List.take_left
theorem zeros_size {z : Array Value} {n : Nat} : (zeros z n).size = n := by simp [zeros]
/-- a slice is laid of parts -/
theorem ef_bslice_all {K : Value → Heap → Prop} {n sz : Nat} {zero : Array Value} {pl : List Nat} {xs : List Value} (hp : pl = List.range' 0 n) (hn : xs.length = n) (hx0 : (xs.all fun x => x.cells.size == sz) = true)
    (hk : ∀ (b : Nat) (h' : Heap), h.size ≤ b → Blk h' b (xs.flatMap fun x => x.cells.toList).toArray → Ext h h' → Own h' sz (Sl.at b n n) (xs.flatMap fun x => x.cells.toList) → K (.slice (some ⟨b, 0, none⟩) n n) h') (h63 : n ≤ 9223372036854775807) :
    Ef.wp h K (.bslice n sz zero pl) xs := by
  have hx : ∀ x ∈ xs, x.cells.size = sz := by simpa using hx0
  clear hx0
  subst hp
  subst hn
  have hf := fill_all (sz := sz) xs 0 (zeros zero (xs.length * sz)) hx (by rw [zeros_size]; simp)
  simp only [Ef.wp]
  rw [hf]
  simp only [Nat.zero_mul, List.take_zero, List.nil_append]
  intro t
  have hl : (xs.flatMap fun x => x.cells.toList).length = xs.length * sz := by
    clear hf hk h63
    induction xs with
    | nil => simp
    | cons x r ih =>
      rw [List.flatMap_cons, List.length_append, ih (fun y hy => hx y (List.mem_cons_of_mem _ hy)), List.length_cons, Nat.add_mul, Array.length_toList, hx x (by simp)]
      omega
  refine hk h.size _ (Nat.le_refl _) Blk.new Mod.push ⟨hl, .inr ⟨rfl, rfl, rfl, Nat.le_refl _, h63, _, Blk.new, ?_, ?_⟩⟩
  · simp only [List.size_toArray, hl, Sl.at_c]
  · simp only [Sl.at_n]
    rw [← hl]
    exact List.take_length
end
end Go.Rm

/- The document's nets: CheckNet. -/
set_option linter.unusedSimpArgs false
set_option linter.unusedVariables false
namespace Go.Rm

section
variable {Y : Sys} {h : Heap}

end
end Go.Rm

import Derived.Test.YtgmbpmnbpakhbaaGreatDoorRLaw2
import Derived.Test.YtgmbpmnbpakhbaaGreatDoorRRef6a
import Derived.Test.YtgmbpmnbpakhbaaGreatDoorSNums

/- Nets in memory: vertices, arcs, tables. Few. -/
set_option linter.unusedSimpArgs false
set_option linter.unusedVariables false
namespace Go.Rm

/-- three numbers: a vertex (X, Y, Type), an arc (From, To, W) -/
structure Tri where
  a : Int
  b : Int
  c : Int
deriving DecidableEq
/-- a table -/
structure Tab where
  i : Int
  o : Int
  cs : List Int
deriving DecidableEq
structure NetD where
  vs : List Tri
  as : List Tri
  ts : List Tab
deriving DecidableEq

def nthT (l : List Tri) (i : Nat) : Tri := l.getD i ⟨0, 0, 0⟩
def nthB (l : List Tab) (i : Nat) : Tab := l.getD i ⟨0, 0, []⟩
theorem nthT_eq {l : List Tri} {i : Nat} (hi : i < l.length) : nthT l i = l[i] := by simp [nthT, hi]
theorem nthB_eq {l : List Tab} {i : Nat} (hi : i < l.length) : nthB l i = l[i] := by simp [nthB, hi]

structure Row3 (h : Heap) (s : Sl) (l : List Tri) : Prop where
  ok : s.ok
  len : l.length = s.n
  v0 : ∀ i, i < l.length → hc h s.b (s.o + i * 3) = some (.int .i64 (nthT l i).a)
  v1 : ∀ i, i < l.length → hc h s.b (s.o + i * 3 + 1) = some (.int .i64 (nthT l i).b)
  v2 : ∀ i, i < l.length → hc h s.b (s.o + i * 3 + 2) = some (.int .i64 (nthT l i).c)
structure RowT (h : Heap) (s : Sl) (l : List Tab) : Prop where
  ok : s.ok
  len : l.length = s.n
  val : ∀ i, i < l.length → ∃ u : Sl, hc h s.b (s.o + i * 3) = some (.int .i64 (nthB l i).i) ∧ hc h s.b (s.o + i * 3 + 1) = some (.int .i64 (nthB l i).o) ∧ hc h s.b (s.o + i * 3 + 2) = some u.v ∧ Row64 h u (nthB l i).cs
def netV (sv sa st : Sl) : Value := .agg #[sv.v, sa.v, st.v]
structure NetH (h : Heap) (sv sa st : Sl) (N : NetD) : Prop where
  rv : Row3 h sv N.vs
  ra : Row3 h sa N.as
  rt : RowT h st N.ts

section
variable {Y : Sys} {h h' : Heap}

theorem Row3.ext {s : Sl} {l : List Tri} (r : Row3 h s l) (e : Ext h h') : Row3 h' s l :=
  ⟨r.ok, r.len, fun i hi => e.hc (r.v0 i hi) (fun h => h), fun i hi => e.hc (r.v1 i hi) (fun h => h), fun i hi => e.hc (r.v2 i hi) (fun h => h)⟩
theorem RowT.ext {s : Sl} {l : List Tab} (r : RowT h s l) (e : Ext h h') : RowT h' s l :=
  ⟨r.ok, r.len, fun i hi => by
    obtain ⟨u, h0, h1, h2, h3⟩ := r.val i hi
    exact ⟨u, e.hc h0 (fun h => h), e.hc h1 (fun h => h), e.hc h2 (fun h => h), h3.ext e⟩⟩
theorem NetH.ext {sv sa st : Sl} {N : NetD} (r : NetH h sv sa st N) (e : Ext h h') : NetH h' sv sa st N := ⟨r.rv.ext e, r.ra.ext e, r.rt.ext e⟩

theorem Row3.rd {s : Sl} {l : List Tri} (r : Row3 h s l) {i : Nat} (hi : i < l.length) : rd h s.b (s.o + i * 3) 3 = some [.int .i64 (nthT l i).a, .int .i64 (nthT l i).b, .int .i64 (nthT l i).c] := by
  refine rd_of (l := [.int .i64 (nthT l i).a, .int .i64 (nthT l i).b, .int .i64 (nthT l i).c]) (fun j v hj => ?_)
  match j with
  | 0 => simp at hj; subst hj; exact r.v0 i hi
  | 1 => simp at hj; subst hj; exact r.v1 i hi
  | 2 => simp at hj; subst hj; exact r.v2 i hi
  | j + 3 => simp at hj
theorem RowT.rd {s : Sl} {l : List Tab} (r : RowT h s l) {i : Nat} (hi : i < l.length) : ∃ u : Sl, rd h s.b (s.o + i * 3) 3 = some [.int .i64 (nthB l i).i, .int .i64 (nthB l i).o, u.v] ∧ hc h s.b (s.o + i * 3 + 2) = some u.v ∧ Row64 h u (nthB l i).cs := by
  obtain ⟨u, h0, h1, h2, h3⟩ := r.val i hi
  refine ⟨u, rd_of (l := [.int .i64 (nthB l i).i, .int .i64 (nthB l i).o, u.v]) (fun j v hj => ?_), h2, h3⟩
  match j with
  | 0 => simp at hj; subst hj; exact h0
  | 1 => simp at hj; subst hj; exact h1
  | 2 => simp at hj; subst hj; exact h2
  | j + 3 => simp at hj

/-- is a net small -/
def fewD (N : NetD) : Bool := decide (N.vs.length ≤ 80 ∧ N.as.length ≤ 300 ∧ N.ts.length ≤ 80 ∧ ∀ t ∈ N.ts, t.cs.length ≤ 300)
theorem fewD_iff {N : NetD} : fewD N = true ↔ N.vs.length ≤ 80 ∧ N.as.length ≤ 300 ∧ N.ts.length ≤ 80 ∧ ∀ i, i < N.ts.length → (nthB N.ts i).cs.length ≤ 300 := by
  simp only [fewD, decide_eq_true_eq]
  constructor
  · rintro ⟨a, b, c, d⟩
    exact ⟨a, b, c, fun i hi => by rw [nthB_eq hi]; exact d _ (List.getElem_mem hi)⟩
  · rintro ⟨a, b, c, d⟩
    refine ⟨a, b, c, fun t ht => ?_⟩
    obtain ⟨i, hi, rfl⟩ := List.getElem_of_mem ht
    have := d i hi
    rwa [nthB_eq hi] at this

def FewI (B : Nat) (v0 : Value) (st : Sl) (N : NetD) (h0 : Heap) (e : List Value) (h' : Heap) : Prop :=
  ∃ (i : Nat) (v4 v5 v6 : Value), e = [v0, .pointer (some ⟨B, 0, none⟩), .bool false, .int .i64 i, v4, v5, v6] ∧ i ≤ st.n ∧ (∀ j, j < i → (nthB N.ts j).cs.length ≤ 300) ∧ h' = h0

theorem few_spec (HF : Y.Has F.rlaw3_Few S_rlaw3_Few) {sv sa st : Sl} {N : NetD} (r : NetH h sv sa st N) {R : Value → Heap → Prop} (hr : ∀ h', Ext h h' → R (.bool (fewD N)) h') : CallP Y F.rlaw3_Few [netV sv sa st] h R := by
  have lv := r.rv.len
  have la := r.ra.len
  have lt := r.rt.len
  refine .of_has HF rfl ?_
  simp [S_rlaw3_Few, FnS.wp, netV]
  refine ef_new_box ?_
  intro B h1 g1 B1 e1
  have r1 := r.ext e1
  simp [B1.hc]
  by_cases c1 : 80 < sv.n
  · have c1' : (80 : Int) < sv.n := by omega
    have hf : fewD N = false := by
      rw [Bool.eq_false_iff]; intro h; have := fewD_iff.1 h; omega
    rw [hf] at hr
    have p1 : ¬ (sv.n : Int) ≤ 80 := by omega
    simp [c1', p1]
    exact hr _ e1
  have c1' : ¬ (80 : Int) < sv.n := by omega
  by_cases c2 : 300 < sa.n
  · have c2' : (300 : Int) < sa.n := by omega
    have hf : fewD N = false := by
      rw [Bool.eq_false_iff]; intro h; have := fewD_iff.1 h; omega
    rw [hf] at hr
    have p1 : (sv.n : Int) ≤ 80 := by omega
    have p2 : ¬ (sa.n : Int) ≤ 300 := by omega
    simp [c1', c2', p1, p2, B1.hc]
    exact hr _ e1
  have c2' : ¬ (300 : Int) < sa.n := by omega
  by_cases c3 : 80 < st.n
  · have c3' : (80 : Int) < st.n := by omega
    have hf : fewD N = false := by
      rw [Bool.eq_false_iff]; intro h; have := fewD_iff.1 h; omega
    rw [hf] at hr
    have p1 : (sv.n : Int) ≤ 80 := by omega
    have p2 : (sa.n : Int) ≤ 300 := by omega
    have p3 : ¬ (st.n : Int) ≤ 80 := by omega
    simp [c1', c2', c3', p1, p2, p3, B1.hc]
    exact hr _ e1
  have c3' : ¬ (80 : Int) < st.n := by omega
  have p1 : (sv.n : Int) ≤ 80 := by omega
  have p2 : (sa.n : Int) ≤ 300 := by omega
  have p3 : (st.n : Int) ≤ 80 := by omega
  simp [c1', c2', c3', p1, p2, p3, B1.hc]
  refine wp_loop' (FewI B (netV sv sa st) st N h1) (fun e _ => st.n - argI e 3) ⟨0, _, _, _, rfl, by omega, fun j hj => by omega, rfl⟩ ?_
  rintro e h2 ⟨i, v4, v5, v6, rfl, hi, hall, rfl⟩
  by_cases c : i < st.n
  · have c' : (i : Int) < st.n := by omega
    have w1 : IntKind.i64.wrap ((i : Int) + 1) = (i : Int) + 1 := i64_wrap (by omega)
    obtain ⟨u, _, hu, ru⟩ := r1.rt.rd (i := i) (by omega)
    have lu := ru.len
    simp [B1.hc, c', sem_idxa r1.rt.ok, hu]
    by_cases g : 300 < u.n
    · have g' : (300 : Int) < u.n := by omega
      have hf : fewD N = false := by
        rw [Bool.eq_false_iff]; intro h; have := (fewD_iff.1 h).2.2.2 i (by omega); omega
      rw [hf] at hr
      simp [g']
      exact hr _ e1
    · have g' : ¬ (300 : Int) < u.n := by omega
      simp [g', w1]
      refine ⟨⟨i + 1, _, _, _, rfl, by omega, fun j hj => ?_, rfl⟩, by simp [argI]; omega⟩
      rcases Nat.lt_or_ge j i with q | q
      · exact hall j q
      · obtain rfl : j = i := by omega
        omega
  · have c' : ¬ (i : Int) < st.n := by omega
    have hf : fewD N = true := fewD_iff.2 ⟨by omega, by omega, by omega, fun j hj => hall j (by omega)⟩
    rw [hf] at hr
    simp [B1.hc, c']
    exact hr _ e1
end
end Go.Rm

/- Nets in memory: rows of three cells that one owns; To. -/
set_option linter.unusedSimpArgs false
set_option linter.unusedVariables false
namespace Go.Rm

def cells3 (l : List (Value × Value × Value)) : List Value := l.flatMap fun t => [t.1, t.2.1, t.2.2]
theorem cells3_len {l : List (Value × Value × Value)} : (cells3 l).length = l.length * 3 := by
  induction l with
  | nil => rfl
  | cons t r ih => simp only [cells3, List.flatMap_cons, List.length_append, List.length_cons, List.length_nil] at ih ⊢; omega
theorem cells3_snoc {l : List (Value × Value × Value)} {x y z : Value} : cells3 (l ++ [(x, y, z)]) = cells3 l ++ [x, y, z] := by simp [cells3]
theorem cells3_get {l : List (Value × Value × Value)} : ∀ {i : Nat} (hi : i < l.length), (cells3 l)[i * 3]? = some l[i].1 ∧ (cells3 l)[i * 3 + 1]? = some l[i].2.1 ∧ (cells3 l)[i * 3 + 2]? = some l[i].2.2 := by
  induction l with
  | nil => intro i hi; simp at hi
  | cons t r ih =>
    intro i hi
    have e : cells3 (t :: r) = t.1 :: t.2.1 :: t.2.2 :: cells3 r := rfl
    rw [e]
    cases i with
    | zero => simp
    | succ i =>
      have := ih (i := i) (by simpa using hi)
      have q0 : (i + 1) * 3 = i * 3 + 1 + 1 + 1 := by omega
      have q1 : (i + 1) * 3 + 1 = i * 3 + 1 + 1 + 1 + 1 := by omega
      have q2 : (i + 1) * 3 + 2 = i * 3 + 2 + 1 + 1 + 1 := by omega
      rw [q1, q2, q0]
      simp only [List.getElem?_cons_succ, List.getElem_cons_succ]
      exact this

def triV (t : Tri) : Value × Value × Value := (.int .i64 t.a, .int .i64 t.b, .int .i64 t.c)
def tabP (p : Tab × Sl) : Value × Value × Value := (.int .i64 p.1.i, .int .i64 p.1.o, p.2.v)

section
variable {Y : Sys} {h h' : Heap}

theorem Own.get3 {s : Sl} {l : List (Value × Value × Value)} (o : Own h 3 s (cells3 l)) {i : Nat} (hi : i < l.length) :
    hc h s.b (s.o + i * 3) = some l[i].1 ∧ hc h s.b (s.o + i * 3 + 1) = some l[i].2.1 ∧ hc h s.b (s.o + i * 3 + 2) = some l[i].2.2 := by
  obtain ⟨a, b, c⟩ := cells3_get hi
  exact ⟨o.cell a, o.cell b, o.cell c⟩
theorem Own.n3 {s : Sl} {l : List (Value × Value × Value)} (o : Own h 3 s (cells3 l)) : l.length = s.n := by
  have := o.1
  rw [cells3_len] at this
  omega
theorem Own.row3 {s : Sl} {l : List Tri} (o : Own h 3 s (cells3 (l.map triV))) : Row3 h s l := by
  have hn := o.n3
  have g : ∀ i (hi : i < l.length), hc h s.b (s.o + i * 3) = some (triV l[i]).1 ∧ hc h s.b (s.o + i * 3 + 1) = some (triV l[i]).2.1 ∧ hc h s.b (s.o + i * 3 + 2) = some (triV l[i]).2.2 := fun i hi => by
    have g := o.get3 (i := i) (by simpa using hi)
    rw [List.getElem_map] at g
    exact g
  refine ⟨o.ok, by simpa using hn, fun i hi => ?_, fun i hi => ?_, fun i hi => ?_⟩
  · rw [nthT_eq hi]; exact (g i hi).1
  · rw [nthT_eq hi]; exact (g i hi).2.1
  · rw [nthT_eq hi]; exact (g i hi).2.2
theorem Row3.mod {S : Nat → Prop} {s : Sl} {l : List Tri} (r : Row3 h s l) (e : Mod S h h') (hs : l ≠ [] → ¬ S s.b) : Row3 h' s l :=
  ⟨r.ok, r.len, fun i hi => e.hc (r.v0 i hi) (hs (by intro e; rw [e] at hi; simp at hi)), fun i hi => e.hc (r.v1 i hi) (hs (by intro e; rw [e] at hi; simp at hi)), fun i hi => e.hc (r.v2 i hi) (hs (by intro e; rw [e] at hi; simp at hi))⟩
theorem Own.rowT {s : Sl} {P : List (Tab × Sl)} {l : List Tab} (o : Own h 3 s (cells3 (P.map tabP))) (hl : P.map Prod.fst = l) (hP : ∀ p ∈ P, Row64 h p.2 p.1.cs) : RowT h s l := by
  have hn := o.n3
  subst hl
  refine ⟨o.ok, by simpa using hn, fun i hi => ?_⟩
  have hi : i < P.length := by simpa using hi
  have e : nthB (P.map Prod.fst) i = P[i].1 := by rw [nthB_eq (by simpa using hi)]; simp
  have g := o.get3 (i := i) (by simpa using hi)
  rw [e]
  exact ⟨P[i].2, by simpa [tabP] using g.1, by simpa [tabP] using g.2.1, by simpa [tabP] using g.2.2, hP _ (List.getElem_mem hi)⟩

theorem sem_build_ints3 {z0 z1 z2 : Value} {k j l : IntKind} {a b c : Int} : IOp.sem Y h (.build #[z0, z1, z2] [(0, 1), (1, 1), (2, 1)] [0, 1, 2]) [.int k a, .int j b, .int l c] = some (.agg #[.int k a, .int j b, .int l c]) := sem_build3 rfl rfl rfl

theorem ef_bslice3 {K : Value → Heap → Prop} {z0 z1 z2 x y z : Value} :
    Ef.wp h K (.bslice 1 3 #[z0, z1, z2] [0]) [.agg #[x, y, z]] = ∀ t : TypeId, K (.slice (some ⟨h.size, 0, none⟩) 1 1) (h.push (.cells #[x, y, z] t)) := by
  have e : Instr.fill (fun i => some (i * 3, 3)) (zeros #[z0, z1, z2] (1 * 3)) ([0].zip [.agg #[x, y, z]]) = some #[x, y, z] := by
    simp [Instr.fill, zeros]
    apply Array.ext
    · simp
    · intro i h1 h2
      match i, h2 with
      | 0, _ => simp
      | 1, _ => simp
      | 2, _ => simp
      | i + 3, h2 => exact absurd h2 (by simp)
  simp only [Ef.wp, e]

/-- append(own, three cells just laid) -/
theorem ef_append3 {K : Value → Heap → Prop} {bytes b : Nat} {zero : Array Value} {s : Sl} {l : List (Value × Value × Value)} {x y z : Value} (hz : zero.size = 3) (o : Own h 3 s (cells3 l)) (hb : Blk h b #[x, y, z])
    (hx : x.oneCell' = true) (hy : y.oneCell' = true) (hzc : z.oneCell' = true) (hby : (s.n + 1) * bytes ≤ 140737488355328) (h63 : s.n + 1 ≤ 9223372036854775807)
    (hk : ∀ (s' : Sl) (h' : Heap), Own h' 3 s' (cells3 (l ++ [(x, y, z)])) → Mod (fun j => s.nl = false ∧ j = s.b) h h' → ((s'.b = s.b ∧ s'.nl = s.nl) ∨ (h.size ≤ s'.b ∧ s'.nl = false)) → K s'.v h') :
    Ef.wp h K (.append 3 bytes zero) [s.v, .slice (some ⟨b, 0, none⟩) 1 1] := by
  have hs : srcOf h 3 1 (.slice (some ⟨b, 0, none⟩) 1 1) = some [x, y, z] := by
    rw [srcOf_at]
    exact rd_blk hb rfl
  refine ef_append_own o (m := 1) (nw := [x, y, z]) rfl hs rfl (fun v hv => ?_) hz hby h63 (fun s' h' o' hn hm hs' => ?_)
  · simp only [List.mem_cons, List.not_mem_nil, or_false] at hv
    rcases hv with rfl | rfl | rfl <;> assumption
  · exact hk s' h' (by rw [cells3_snoc]; exact o') hm hs'

theorem to_spec' (HT : Y.Has F.rlaw2_To S_rlaw2_To) {ins outs : Int} {s : Sl} {cs : List Int} (r : Row64 h s cs) (hbig : s.n ≤ 1000000) {R : Value → Heap → Prop}
    (hr : ∀ h' s', Ext h h' → Row64 h' s' cs → (cs ≠ [] → h.size ≤ s'.b ∧ s'.b < h'.size) → R (tabV ins outs s') h') : CallP Y F.rlaw2_To [tabV ins outs s] h R := by
  refine .of_has HT rfl ?_
  simp [S_rlaw2_To, FnS.wp, tabV]
  refine ef_new_box ?_
  intro b h1 g1 B1 e1
  simp
  refine ef_new_box ?_
  intro rb h2 g2 B2 e2
  have B1' := B1.ext e2
  have e12 := e1.trans e2
  have z1 := e1.size
  have z2 := e2.size
  have B2lt := B2.lt
  simp [B1'.hc, ef_bslice0]
  intro t
  have e3 : Ext h2 (h2.push (.cells #[] t)) := Mod.push
  have B3 := B1'.ext e3
  simp [B3.hc]
  refine ef_clone64 ((r.ext e12).ext e3) (by omega) own_empty (.inr (Nat.le_refl _)) e3 ?_
  intro s' h4 o4 hs' e4
  have B4 := B1'.ext e4
  simp [B4.hc]
  refine ef_store_box (B2.ext e4) rfl rfl (by simp) ?_
  intro h5 B5 m5
  simp
  refine resP_x rfl B5 rfl ?_
  have o5 := o4.mod m5 (fun hn h => by
    rcases hs' with hs' | hs'
    · rw [hn] at hs'; cases hs'
    · omega)
  refine hr h5 s' (Mod.ext (e12.trans e4) m5 (fun j hj => by omega)) o5.row64 (fun hne => ?_)
  obtain ⟨arr, hb, _, hnl⟩ := o5.blk (i := 0) (by rw [ints64_len]; exact List.length_pos_iff.2 hne)
  have := hs'.resolve_left (by rw [hnl]; simp)
  exact ⟨by omega, hb.lt⟩
end
end Go.Rm

/- Nets in memory: To. -/
set_option linter.unusedSimpArgs false
set_option linter.unusedVariables false
namespace Go.Rm

section
variable {Y : Sys} {h h' : Heap}

def ToI1 (v0 : Value) (B rb M n : Nat) (l : List Tri) (hA : Heap) (e : List Value) (h' : Heap) : Prop :=
  ∃ (i : Nat) (s1 : Sl) (v5 v6 v7 v8 v9 : Value), e = [v0, .pointer (some ⟨B, 0, none⟩), .pointer (some ⟨rb, 0, none⟩), .pointer (some ⟨M, 0, none⟩), .int .i64 i, v5, v6, v7, v8, v9] ∧ i ≤ n ∧
    Blk h' M #[s1.v, .slice none 0 0, .slice none 0 0] ∧ Own h' 3 s1 (cells3 ((l.take i).map triV)) ∧ (s1.nl = true ∨ hA.size ≤ s1.b) ∧ Mod (fun j => j = M) hA h'
def ToI2 (v0 : Value) (B rb M n : Nat) (s1 : Sl) (l : List Tri) (hA : Heap) (e : List Value) (h' : Heap) : Prop :=
  ∃ (i : Nat) (s2 : Sl) (v4 v6 v7 v8 v9 : Value), e = [v0, .pointer (some ⟨B, 0, none⟩), .pointer (some ⟨rb, 0, none⟩), .pointer (some ⟨M, 0, none⟩), v4, .int .i64 i, v6, v7, v8, v9] ∧ i ≤ n ∧
    Blk h' M #[s1.v, s2.v, .slice none 0 0] ∧ Own h' 3 s2 (cells3 ((l.take i).map triV)) ∧ (s2.nl = true ∨ hA.size ≤ s2.b) ∧ Mod (fun j => j = M) hA h'
def ToI3 (v0 : Value) (B rb M n : Nat) (s1 s2 : Sl) (l : List Tab) (hA : Heap) (e : List Value) (h' : Heap) : Prop :=
  ∃ (i : Nat) (s3 : Sl) (P : List (Tab × Sl)) (v4 v5 v7 v8 v9 : Value), e = [v0, .pointer (some ⟨B, 0, none⟩), .pointer (some ⟨rb, 0, none⟩), .pointer (some ⟨M, 0, none⟩), v4, v5, .int .i64 i, v7, v8, v9] ∧ i ≤ n ∧
    Blk h' M #[s1.v, s2.v, s3.v] ∧ Own h' 3 s3 (cells3 (P.map tabP)) ∧ P.map Prod.fst = l.take i ∧ (∀ p ∈ P, Row64 h' p.2 p.1.cs ∧ (p.1.cs ≠ [] → hA.size ≤ p.2.b ∧ (s3.nl = false → p.2.b ≠ s3.b) ∧ p.2.b < h'.size)) ∧ (s3.nl = true ∨ hA.size ≤ s3.b) ∧ Mod (fun j => j = M) hA h'

theorem take_mapT {l : List Tri} {i : Nat} (hi : i < l.length) : (l.take (i + 1)).map triV = (l.take i).map triV ++ [(.int .i64 (nthT l i).a, .int .i64 (nthT l i).b, .int .i64 (nthT l i).c)] := by
  rw [List.take_succ_eq_append_getElem hi, List.map_append, nthT_eq hi]
  rfl

theorem to3o_spec (HT3 : Y.Has F.rlaw3_To S_rlaw3_To) (HT : Y.Has F.rlaw2_To S_rlaw2_To) {sv sa st : Sl} {N : NetD} (r : NetH h sv sa st N) (bv : N.vs.length ≤ 1000) (ba : N.as.length ≤ 1000) (bt : N.ts.length ≤ 1000) (bc : ∀ i, i < N.ts.length → (nthB N.ts i).cs.length ≤ 1000000)
    {R : Value → Heap → Prop} (hr : ∀ h' s1 s2 s3, Ext h h' → NetH h' s1 s2 s3 N → Own h' 3 s2 (cells3 (N.as.map triV)) → (s2.nl = true ∨ h.size ≤ s2.b) → R (netV s1 s2 s3) h') : CallP Y F.rlaw3_To [netV sv sa st] h R := by
  have lv := r.rv.len
  have la := r.ra.len
  have lt := r.rt.len
  refine .of_has HT3 rfl ?_
  simp [S_rlaw3_To, FnS.wp, netV]
  refine ef_new_box ?_
  intro B h1 g1 B1 e1
  simp
  refine ef_new_box ?_
  intro rb h2 g2 B2 e2
  simp
  refine ef_new_box ?_
  intro M h3 g3 B3 e3
  have z1 := e1.size
  have z2 := e2.size
  have l1 := B1.lt
  have l2 := B2.lt
  have l3 := B3.lt
  have hBM : B ≠ M := by omega
  have hrM : rb ≠ M := by omega
  have x3 := (e1.trans e2).trans e3
  have A3 := (B1.ext e2).ext e3
  have C3 := B2.ext e3
  simp
  refine wp_loop' (ToI1 (netV sv sa st) B rb M sv.n N.vs h3) (fun e _ => sv.n - argI e 4) ⟨0, Sl.nil, _, _, _, _, _, rfl, by omega, B3, Own.nil, .inl rfl, Mod.refl h3⟩ ?_
  rintro e h4 ⟨i, s1, v5, v6, v7, v8, v9, rfl, hi, B4, o4, hs4, m4⟩
  have A4 := m4.blk A3 hBM
  have r4 := r.rv.ext (Mod.ext x3 m4 (fun j hj => by omega))
  by_cases c : i < sv.n
  · have c' : (i : Int) < sv.n := by omega
    have w1 : IntKind.i64.wrap ((i : Int) + 1) = (i : Int) + 1 := i64_wrap (by omega)
    have n4 := o4.n3
    have n4' : s1.n = i := by rw [← n4]; simp; omega
    simp [A4.hc, B4.hc, c', sem_idxa r4.ok, r4.v0 i (by omega), r4.v1 i (by omega), r4.v2 i (by omega), sem_build_ints3, ef_bslice3]
    intro t
    have e5 : Ext h4 (h4.push (.cells #[.int .i64 (nthT N.vs i).a, .int .i64 (nthT N.vs i).b, .int .i64 (nthT N.vs i).c] t)) := Mod.push
    have B5 := B4.ext e5
    have o5 := o4.mod e5 (fun _ h => h)
    simp [B5.hc]
    refine ef_append3 rfl o5 Blk.new rfl rfl rfl (by omega) (by omega) ?_
    intro s' h6 o6 m6 hs6
    rw [← take_mapT (by omega)] at o6
    have hs6' : s'.nl = true ∨ h3.size ≤ s'.b := by
      have := m4.size
      have := e5.size
      rcases hs6 with ⟨q1, q2⟩ | ⟨q1, q2⟩
      · rw [q1, q2]; exact hs4
      · exact .inr (by omega)
    have B6 := m6.blk B5 (fun ⟨q1, q2⟩ => by have := hs4.resolve_left (by rw [q1]; simp); omega)
    simp [StoreP.open, B6.hc, B6.hfz, w1]
    have B7 := B6.set (o := 0) (v := s'.v)
    have o7 := o6.mod (Mod.set (S := fun j => j = M) (h := h6) (o := 0) (v := s'.v) rfl) (fun hn hj => by have := hs6'.resolve_left (by rw [hn]; simp); omega)
    refine ⟨⟨i + 1, s', _, _, _, _, _, rfl, by omega, by simpa using B7, o7, hs6', ?_⟩, by simp [argI]; omega⟩
    refine (m4.then ((e5.mono fun _ _ h => h.elim).trans m6) (fun j hj q => ?_)).trans (Mod.set rfl)
    have := hs4.resolve_left (by rw [q.1]; simp)
    omega
  have c' : ¬ (i : Int) < sv.n := by omega
  obtain rfl : i = sv.n := by omega
  rw [List.take_of_length_le (by omega)] at o4
  have R4 := o4.row3
  have x4 : Ext h h4 := Mod.ext x3 m4 (fun j hj => by omega)
  have C4 := m4.blk C3 hrM
  have hb1 : N.vs ≠ [] → s1.b ≠ M ∧ s1.b < h4.size ∧ h3.size ≤ s1.b := fun hne => by
    obtain ⟨arr, hb, _, hnl⟩ := o4.blk (i := 0) (by rw [cells3_len, List.length_map]; have := List.length_pos_iff.2 hne; omega)
    have := hs4.resolve_left (by rw [hnl]; simp)
    exact ⟨by omega, hb.lt, by omega⟩
  have k4 := m4.size
  simp [A4.hc]
  refine wp_loop' (ToI2 (netV sv sa st) B rb M sa.n s1 N.as h4) (fun e _ => sa.n - argI e 5) ⟨0, Sl.nil, _, _, _, _, _, rfl, by omega, B4, Own.nil, .inl rfl, Mod.refl h4⟩ ?_
  clear r4 c c' hi v5 v6 v7 v8 v9
  rintro e h5 ⟨i, s2, v4, v6, v7, v8, v9, rfl, hi, B5, o5, hs5, m5⟩
  have A5 := m5.blk A4 hBM
  have r5 := r.ra.ext (Mod.ext x4 m5 (fun j hj => by omega))
  by_cases c : i < sa.n
  · have c' : (i : Int) < sa.n := by omega
    have w1 : IntKind.i64.wrap ((i : Int) + 1) = (i : Int) + 1 := i64_wrap (by omega)
    have n5 := o5.n3
    have n5' : s2.n = i := by rw [← n5]; simp; omega
    simp [A5.hc, B5.hc, c', sem_idxa r5.ok, r5.v0 i (by omega), r5.v1 i (by omega), r5.v2 i (by omega), sem_build_ints3, ef_bslice3]
    intro t
    have e6 : Ext h5 (h5.push (.cells #[.int .i64 (nthT N.as i).a, .int .i64 (nthT N.as i).b, .int .i64 (nthT N.as i).c] t)) := Mod.push
    have B6 := B5.ext e6
    have o6 := o5.mod e6 (fun _ h => h)
    simp [B6.hc]
    refine ef_append3 rfl o6 Blk.new rfl rfl rfl (by omega) (by omega) ?_
    intro s' h7 o7 m7 hs7
    rw [← take_mapT (by omega)] at o7
    have hs7' : s'.nl = true ∨ h4.size ≤ s'.b := by
      have := m5.size
      have := e6.size
      rcases hs7 with ⟨q1, q2⟩ | ⟨q1, q2⟩
      · rw [q1, q2]; exact hs5
      · exact .inr (by omega)
    have B7 := m7.blk B6 (fun ⟨q1, q2⟩ => by have := hs5.resolve_left (by rw [q1]; simp); omega)
    simp [StoreP.open, B7.hc, B7.hfz, w1]
    have B8 := B7.set (o := 1) (v := s'.v)
    have o8 := o7.mod (Mod.set (S := fun j => j = M) (h := h7) (o := 1) (v := s'.v) rfl) (fun hn hj => by have := hs7'.resolve_left (by rw [hn]; simp); omega)
    refine ⟨⟨i + 1, s', _, _, _, _, _, rfl, by omega, by simpa using B8, o8, hs7', ?_⟩, by simp [argI]; omega⟩
    refine (m5.then ((e6.mono fun _ _ h => h.elim).trans m7) (fun j hj q => ?_)).trans (Mod.set rfl)
    have := hs5.resolve_left (by rw [q.1]; simp)
    omega
  have c' : ¬ (i : Int) < sa.n := by omega
  obtain rfl : i = sa.n := by omega
  rw [List.take_of_length_le (by omega)] at o5
  have R5 := o5.row3
  have R45 := R4.mod m5 (fun hne => (hb1 hne).1)
  have x5 : Ext h h5 := Mod.ext x4 m5 (fun j hj => by omega)
  have C5 := m5.blk C4 hrM
  have hb2 : N.as ≠ [] → s2.b ≠ M ∧ s2.b < h5.size ∧ h4.size ≤ s2.b := fun hne => by
    obtain ⟨arr, hb, _, hnl⟩ := o5.blk (i := 0) (by rw [cells3_len, List.length_map]; have := List.length_pos_iff.2 hne; omega)
    have := hs5.resolve_left (by rw [hnl]; simp)
    exact ⟨by omega, hb.lt, by omega⟩
  have k5 := m5.size
  simp [A5.hc]
  refine wp_loop' (ToI3 (netV sv sa st) B rb M st.n s1 s2 N.ts h5) (fun e _ => st.n - argI e 6) ⟨0, Sl.nil, [], _, _, _, _, _, rfl, by omega, B5, Own.nil, rfl, fun p hp => by simp at hp, .inl rfl, Mod.refl h5⟩ ?_
  clear r5 c c' hi v4 v6 v7 v8 v9
  rintro e h6 ⟨i, s3, P, v4, v5, v7, v8, v9, rfl, hi, B6, o6, hP, hrow, hs6, m6⟩
  have A6 := m6.blk A5 hBM
  have x6 : Ext h h6 := Mod.ext x5 m6 (fun j hj => by omega)
  have r6 := r.rt.ext x6
  have k6 := m6.size
  by_cases c : i < st.n
  · have c' : (i : Int) < st.n := by omega
    have w1 : IntKind.i64.wrap ((i : Int) + 1) = (i : Int) + 1 := i64_wrap (by omega)
    have n6 := o6.n3
    have hPl : P.length = i := by have := congrArg List.length hP; simp at this; omega
    have n6' : s3.n = i := by rw [← n6]; simpa using hPl
    obtain ⟨u, hrd, hu, ru⟩ := r6.rd (i := i) (by omega)
    have hul := ru.len
    have hbc := bc i (by omega)
    simp [A6.hc, B6.hc, c', sem_idxa r6.ok, hrd]
    refine to_spec' HT ru (by omega) ?_
    intro h7 u' e7 ru7 hu7
    have B7 := B6.ext e7
    have k7 := e7.size
    simp [B7.hc, tabV, ef_bslice3]
    intro t
    have e8 : Ext h7 (h7.push (.cells #[.int .i64 (nthB N.ts i).i, .int .i64 (nthB N.ts i).o, u'.v] t)) := Mod.push
    have k8 := e8.size
    have B8 := B7.ext e8
    have o8 := (o6.mod e7 (fun _ h => h)).mod e8 (fun _ h => h)
    simp [B8.hc]
    refine ef_append3 rfl o8 Blk.new rfl rfl (by simp) (by omega) (by omega) ?_
    intro s' h9 o9 m9 hs9
    have k9 := m9.size
    have o9' : Own h9 3 s' (cells3 ((P ++ [(nthB N.ts i, u')]).map tabP)) := by simpa [tabP] using o9
    have hs9' : s'.nl = true ∨ h5.size ≤ s'.b := by
      rcases hs9 with ⟨q1, q2⟩ | ⟨q1, q2⟩
      · rw [q1, q2]; exact hs6
      · exact .inr (by omega)
    have B9 := m9.blk B8 (fun ⟨q1, q2⟩ => by have := hs6.resolve_left (by rw [q1]; simp); omega)
    simp [StoreP.open, B9.hc, B9.hfz, w1]
    have B10 := B9.set (o := 2) (v := s'.v)
    have m10 : Mod (fun j => j = M) h9 (hset h9 M 2 s'.v) := Mod.set rfl
    have o10 := o9'.mod m10 (fun hn hj => by have := hs9'.resolve_left (by rw [hn]; simp); omega)
    have k10 := m10.size
    have s3lt : s3.nl = false → s3.b < h6.size := fun hn => o6.lt hn
    refine ⟨⟨i + 1, s', P ++ [(nthB N.ts i, u')], _, _, _, _, _, rfl, by omega, by simpa using B10, o10, ?_, ?_, hs9', ?_⟩, by simp [argI]; omega⟩
    · rw [List.map_append, hP, List.take_succ_eq_append_getElem (by omega), nthB_eq (by omega)]
      rfl
    · intro p hp
      rcases List.mem_append.1 hp with g | g
      · obtain ⟨g1, g2⟩ := hrow p g
        have g3 : p.1.cs ≠ [] → ¬ (s3.nl = false ∧ p.2.b = s3.b) := fun hne q => (g2 hne).2.1 q.1 q.2
        refine ⟨(((g1.ext e7).ext e8).mod m9 g3).mod m10 (fun hne hj => by have := (g2 hne).1; omega), fun hne => ?_⟩
        obtain ⟨q0, q1, q2⟩ := g2 hne
        refine ⟨q0, fun hn => ?_, by omega⟩
        rcases hs9 with ⟨w1, w2⟩ | ⟨w1, w2⟩
        · rw [w1]; exact q1 (by rw [← w2]; exact hn)
        · omega
      · simp only [List.mem_singleton] at g
        subst g
        refine ⟨((ru7.ext e8).mod m9 (fun hne q => ?_)).mod m10 (fun hne hj => ?_), fun hne => ?_⟩
        · have := hu7 hne
          have := s3lt q.1
          have := q.2
          omega
        · have := hu7 hne
          omega
        · have q : h6.size ≤ u'.b ∧ u'.b < h7.size := hu7 hne
          refine ⟨show h5.size ≤ u'.b by omega, fun hn => ?_, show u'.b < (hset h9 M 2 s'.v).size by omega⟩
          show u'.b ≠ s'.b
          rcases hs9 with ⟨w1, w2⟩ | ⟨w1, w2⟩
          · have := s3lt (by rw [← w2]; exact hn)
            omega
          · omega
    · refine (m6.then (((e7.trans e8).mono fun _ _ h => h.elim).trans m9) (fun j hj q => ?_)).trans m10
      have := hs6.resolve_left (by rw [q.1]; simp)
      omega
  have c' : ¬ (i : Int) < st.n := by omega
  obtain rfl : i = st.n := by omega
  rw [List.take_of_length_le (by omega)] at hP
  have R6 : RowT h6 s3 N.ts := o6.rowT hP (fun p hp => (hrow p hp).1)
  have hH : NetH h6 s1 s2 s3 N := ⟨R45.mod m6 (fun hne => (hb1 hne).1), R5.mod m6 (fun hne => (hb2 hne).1), R6⟩
  have C6 := m6.blk C5 hrM
  simp [A6.hc, rd_blk B6]
  refine ef_store_box C6 rfl rfl (by simp) ?_
  intro h7 B7 m7
  simp
  refine resP_x rfl B7 rfl ?_
  have o7 := o6.mod m7 (fun hn hj => by have := hs6.resolve_left (by rw [hn]; simp); omega)
  refine hr h7 s1 s2 s3 (Mod.ext x6 m7 (fun j hj => by omega)) ⟨hH.rv.mod m7 (fun hne hj => by have := hb1 hne; omega), hH.ra.mod m7 (fun hne hj => by have := hb2 hne; omega), o7.rowT hP (fun p hp => ?_)⟩ ((o5.mod m6 (fun hn hj => by have := hs5.resolve_left (by rw [hn]; simp); omega)).mod m7 (fun hn hj => by have := hs5.resolve_left (by rw [hn]; simp); omega)) (hs5.imp_right fun q => by have := x4.size; omega)
  obtain ⟨g1, g2⟩ := hrow p hp
  exact g1.mod m7 (fun hne hj => by have := (g2 hne).1; omega)
theorem to3_spec (HT3 : Y.Has F.rlaw3_To S_rlaw3_To) (HT : Y.Has F.rlaw2_To S_rlaw2_To) {sv sa st : Sl} {N : NetD} (r : NetH h sv sa st N) (bv : N.vs.length ≤ 1000) (ba : N.as.length ≤ 1000) (bt : N.ts.length ≤ 1000) (bc : ∀ i, i < N.ts.length → (nthB N.ts i).cs.length ≤ 1000000)
    {R : Value → Heap → Prop} (hr : ∀ h' s1 s2 s3, Ext h h' → NetH h' s1 s2 s3 N → R (netV s1 s2 s3) h') : CallP Y F.rlaw3_To [netV sv sa st] h R :=
  to3o_spec HT3 HT r bv ba bt bc fun h' s1 s2 s3 e n _ _ => hr h' s1 s2 s3 e n
end
end Go.Rm

/- What is wrong with a net, in plain words; the small functions of package net. -/
set_option linter.unusedSimpArgs false
set_option linter.unusedVariables false
namespace Go.Rm

abbrev wNet : ByteArray := ⟨#[110, 101, 116]⟩
abbrev wType : ByteArray := ⟨#[116, 121, 112, 101]⟩
abbrev wVert : ByteArray := ⟨#[118, 101, 114, 116]⟩
abbrev wArc : ByteArray := ⟨#[97, 114, 99]⟩
def withinW (p : ByteArray) (k : Int) (w : Wr) : Wr := if w.2 = 0 then wOK else ((p, k) :: w.1, w.2)
def atW (p : ByteArray) (k : Int) (e : Int) : Wr := ([(p, k)], e)
def farB (x : Int) : Bool := decide (x < -1048576 ∨ 1048576 < x)
def vtxB (nv : Nat) (v : Int) : Bool := decide (0 ≤ v ∧ v < nv)
def tabWr (t : Tab) : Wr := tabW t.i t.o t.cs

def typesW : Nat → List Tab → Wr
  | _, [] => wOK
  | k, t :: r => if (tabWr t).2 ≠ 0 then withinW wType k (tabWr t) else typesW (k + 1) r
def vertW (nt : Nat) (k : Int) (v : Tri) : Wr := if farB v.a || farB v.b then atW wVert k 1 else if vtxB nt v.c then wOK else atW wVert k 5
def vertsW (nt : Nat) : Nat → List Tri → Wr
  | _, [] => wOK
  | k, v :: r => if (vertW nt k v).2 ≠ 0 then vertW nt k v else vertsW nt (k + 1) r
def arcW (nv : Nat) (k : Int) (a : Tri) : Wr := if vtxB nv a.a && vtxB nv a.b then (if weightB a.c then wOK else atW wArc k 8) else atW wArc k 5
def arcsW (nv : Nat) : Nat → List Tri → Wr
  | _, [] => wOK
  | k, a :: r => if (arcW nv k a).2 ≠ 0 then arcW nv k a else arcsW nv (k + 1) r
def insN (as : List Tri) (v : Nat) : Nat := (as.filter fun a => a.b = (v : Int)).length
def outsN (as : List Tri) (v : Nat) : Nat := (as.filter fun a => a.a = (v : Int)).length
def meet1 (N : NetD) (k : Nat) (v : Tri) : Wr :=
  if 16 < insN N.as k ∨ 16 < outsN N.as k then atW wVert k 4
  else if (nthB N.ts v.c.toNat).i ≠ insN N.as k ∨ (nthB N.ts v.c.toNat).o ≠ outsN N.as k then atW wVert k 9 else wOK
def meetW (N : NetD) : Nat → List Tri → Wr
  | _, [] => wOK
  | k, v :: r => if (meet1 N k v).2 ≠ 0 then meet1 N k v else meetW N (k + 1) r
def orW (a b : Wr) : Wr := if a.2 ≠ 0 then a else b
def sizeW (N : NetD) : Wr := if 4096 < N.vs.length then atW wNet 0 4 else if 16384 < N.as.length then atW wNet 1 4 else if 256 < N.ts.length then atW wNet 2 4 else wOK
/-- what is wrong with a net first, and where -/
def netW (N : NetD) : Wr := orW (sizeW N) (orW (typesW 0 N.ts) (orW (vertsW N.ts.length 0 N.vs) (orW (arcsW N.vs.length 0 N.as) (meetW N 0 N.vs))))

theorem typesW_drop {l : List Tab} {i : Nat} (hi : i < l.length) : typesW i (l.drop i) = if (tabWr (nthB l i)).2 ≠ 0 then withinW wType i (tabWr (nthB l i)) else typesW (i + 1) (l.drop (i + 1)) := by
  rw [List.drop_eq_getElem_cons hi, typesW, nthB_eq hi]
theorem vertsW_drop {nt : Nat} {l : List Tri} {i : Nat} (hi : i < l.length) : vertsW nt i (l.drop i) = if (vertW nt i (nthT l i)).2 ≠ 0 then vertW nt i (nthT l i) else vertsW nt (i + 1) (l.drop (i + 1)) := by
  rw [List.drop_eq_getElem_cons hi, vertsW, nthT_eq hi]
theorem arcsW_drop {nt : Nat} {l : List Tri} {i : Nat} (hi : i < l.length) : arcsW nt i (l.drop i) = if (arcW nt i (nthT l i)).2 ≠ 0 then arcW nt i (nthT l i) else arcsW nt (i + 1) (l.drop (i + 1)) := by
  rw [List.drop_eq_getElem_cons hi, arcsW, nthT_eq hi]
theorem meetW_drop {N : NetD} {l : List Tri} {i : Nat} (hi : i < l.length) : meetW N i (l.drop i) = if (meet1 N i (nthT l i)).2 ≠ 0 then meet1 N i (nthT l i) else meetW N (i + 1) (l.drop (i + 1)) := by
  rw [List.drop_eq_getElem_cons hi, meetW, nthT_eq hi]

theorem tabWr_len {t : Tab} : (tabWr t).1.length ≤ 1 ∧ ((tabWr t).2 ≠ 0 → 0 < (tabWr t).1.length) := by
  have hs : (sidesW t.i t.o).1.length ≤ 1 ∧ ((sidesW t.i t.o).2 ≠ 0 → 0 < (sidesW t.i t.o).1.length) := by
    unfold sidesW
    split
    · simp [turnW]
    · split <;> simp [turnW, wOK]
  unfold tabWr tabW
  split
  · exact hs
  · split
    · simp [turnW]
    · split <;> simp [turnW, wOK]
section
variable {Y : Sys} {h : Heap}

theorem far_spec (H : Y.Has F.net_far S_net_far) {x : Int} {R : Value → Heap → Prop} (hr : R (.bool (farB x)) h) : CallP Y F.net_far [.int .i64 x] h R := by
  refine .of_has H rfl ?_
  simp [S_net_far, FnS.wp]
  by_cases c1 : x < -1048576
  · have : farB x = true := by simp [farB, c1]
    rw [this] at hr
    simp [c1, hr]
  · have : farB x = decide (1048576 < x) := by simp [farB, c1]
    rw [this] at hr
    simp [c1, hr]
theorem coord_spec (H : Y.Has F.rref6_Coord S_rref6_Coord) {x : Int} {R : Value → Heap → Prop} (hr : R (.bool !(farB x)) h) : CallP Y F.rref6_Coord [.int .i64 x] h R := by
  refine .of_has H rfl ?_
  simp [S_rref6_Coord, FnS.wp]
  by_cases c1 : x < -1048576
  · have c2 : ¬ (-1048576 ≤ x) := by omega
    have : farB x = true := by simp [farB, c1]
    rw [this] at hr
    simp [c1, c2]
    simpa using hr
  · have c2 : -1048576 ≤ x := by omega
    have : farB x = decide (1048576 < x) := by simp [farB, c1]
    rw [this] at hr
    have e : (!decide (1048576 < x)) = decide (x ≤ 1048576) := by
      by_cases q : x ≤ 1048576
      · have : ¬ 1048576 < x := by omega
        simp [q, this]
      · have : 1048576 < x := by omega
        simp [q, this]
    rw [e] at hr
    simp [c1, c2]
    simpa using hr
theorem vertex_spec (H : Y.Has F.net_vertex S_net_vertex) {sv sa st : Sl} {N : NetD} (lv : N.vs.length = sv.n) {v : Int} {R : Value → Heap → Prop} (hr : ∀ h', Ext h h' → R (.bool (vtxB N.vs.length v)) h') : CallP Y F.net_vertex [netV sv sa st, .int .i64 v] h R := by
  refine .of_has H rfl ?_
  simp [S_net_vertex, FnS.wp, netV]
  refine ef_new_box ?_
  intro b h1 g1 B1 e1
  rw [lv] at hr
  by_cases c : 0 ≤ v
  · have : vtxB sv.n v = decide (v < sv.n) := by simp [vtxB, c]
    rw [this] at hr
    simp [c, B1.hc]
    exact hr _ e1
  · have : vtxB sv.n v = false := by simp [vtxB, c]
    rw [this] at hr
    simp [c]
    exact hr _ e1

/-- a fault at a part, of a number -/
theorem nfault_spec (H : Y.Has F.net_fault S_net_fault) {p : ByteArray} {a c : Int} (hc : c ≠ 0) {R : Value → Heap → Prop} (hr : ∀ v h', Ext h h' → FErr Y h.size h' (atW p a c) v → (∃ t u, v = .iface t u) → R v h') :
    CallP Y F.net_fault [.string p, .int .i64 a, .iface (Y.tid Ty.api_Errno) (.int .i64 c)] h R := by
  refine .of_has H rfl ?_
  simp [S_net_fault, FnS.wp]
  refine ef_new_box ?_
  intro b h1 g1 B e1
  simp
  exact hr _ _ e1 (fun h' m => fault_at (m.blk B (by omega)) hc) ⟨_, _, rfl⟩

/-- a fault at a part, of a fault -/
theorem nfault2_spec (H : Y.Has F.net_fault S_net_fault) {p : ByteArray} {a : Int} {w : Wr} {v : Value} {lo : Nat} (hlo : lo ≤ h.size) (hv : FErr Y lo h w v) (h0 : w.2 ≠ 0) {R : Value → Heap → Prop}
    (hr : ∀ v h', Ext h h' → FErr Y lo h' (withinW p a w) v → (∃ t u, v = .iface t u) → R v h') :
    CallP Y F.net_fault [.string p, .int .i64 a, v] h R := by
  obtain ⟨t, u, rfl⟩ := hv.here.iface h0
  refine .of_has H rfl ?_
  simp [S_net_fault, FnS.wp]
  refine ef_new_box ?_
  intro b h1 g1 B e1
  simp
  refine hr _ _ e1 (fun h' m => ?_) ⟨_, _, rfl⟩
  have hb := m.blk B (by omega)
  have he := hv.ext e1 h' m
  rcases he with ⟨q, _⟩ | ⟨_, he⟩
  · exact absurd q h0
  · unfold withinW
    rw [if_neg h0]
    exact .inr ⟨h0, b, _, rfl, by rw [hb.hc]; rfl, by rw [hb.hc]; rfl, by rw [hb.hc]; rfl, he⟩
end
end Go.Rm

/- Package net: meet. -/
set_option linter.unusedSimpArgs false
set_option linter.unusedVariables false
namespace Go.Rm

/-- how many of the arcs end (begin) at each vertex -/
def insL (n : Nat) (as : List Tri) : List Int := (List.range n).map fun v => (insN as v : Int)
def outsL (n : Nat) (as : List Tri) : List Int := (List.range n).map fun v => (outsN as v : Int)
@[simp] theorem insL_len {n : Nat} {as : List Tri} : (insL n as).length = n := by simp [insL]
@[simp] theorem outsL_len {n : Nat} {as : List Tri} : (outsL n as).length = n := by simp [outsL]
theorem insL_at {n v : Nat} {as : List Tri} (hv : v < n) : nthI (insL n as) v = insN as v := by simp [nthI, insL, hv]
theorem outsL_at {n v : Nat} {as : List Tri} (hv : v < n) : nthI (outsL n as) v = outsN as v := by simp [nthI, outsL, hv]
theorem insN_le {as : List Tri} {v : Nat} : insN as v ≤ as.length := List.length_filter_le ..
theorem outsN_le {as : List Tri} {v : Nat} : outsN as v ≤ as.length := List.length_filter_le ..
theorem insN_snoc {as : List Tri} {i v : Nat} (hi : i < as.length) : insN (as.take (i + 1)) v = insN (as.take i) v + if (nthT as i).b = (v : Int) then 1 else 0 := by
  rw [List.take_succ_eq_append_getElem hi, nthT_eq hi]
  unfold insN
  rw [List.filter_append, List.length_append]
  congr 1
  by_cases c : as[i].b = (v : Int) <;> simp [c]
theorem outsN_snoc {as : List Tri} {i v : Nat} (hi : i < as.length) : outsN (as.take (i + 1)) v = outsN (as.take i) v + if (nthT as i).a = (v : Int) then 1 else 0 := by
  rw [List.take_succ_eq_append_getElem hi, nthT_eq hi]
  unfold outsN
  rw [List.filter_append, List.length_append]
  congr 1
  by_cases c : as[i].a = (v : Int) <;> simp [c]
theorem insL_step {n i t : Nat} {as : List Tri} (hi : i < as.length) (ht : (nthT as i).b = (t : Int)) (htn : t < n) :
    (insL n (as.take i)).set t ((insN (as.take i) t : Int) + 1) = insL n (as.take (i + 1)) := by
  apply List.ext_getElem (by simp)
  intro v h1 h2
  have hv : v < n := by simpa using h2
  rw [List.getElem_set]
  simp only [insL, List.getElem_map, List.getElem_range]
  rw [insN_snoc hi, ht]
  by_cases c : t = v
  · subst c; simp
  · have : ¬ (t : Int) = (v : Int) := by omega
    simp [c, this]
theorem outsL_step {n i t : Nat} {as : List Tri} (hi : i < as.length) (ht : (nthT as i).a = (t : Int)) (htn : t < n) :
    (outsL n (as.take i)).set t ((outsN (as.take i) t : Int) + 1) = outsL n (as.take (i + 1)) := by
  apply List.ext_getElem (by simp)
  intro v h1 h2
  have hv : v < n := by simpa using h2
  rw [List.getElem_set]
  simp only [outsL, List.getElem_map, List.getElem_range]
  rw [outsN_snoc hi, ht]
  by_cases c : t = v
  · subst c; simp
  · have : ¬ (t : Int) = (v : Int) := by omega
    simp [c, this]
theorem insL_nil {n : Nat} : insL n [] = List.replicate n 0 := by
  apply List.ext_getElem (by simp)
  intro v h1 h2
  simp [insL, insN]
theorem outsL_nil {n : Nat} : outsL n [] = List.replicate n 0 := by
  apply List.ext_getElem (by simp)
  intro v h1 h2
  simp [outsL, outsN]

section
variable {Y : Sys} {h : Heap}

theorem own_set64 {s : Sl} {cs : List Int} (o : Own h 1 s (ints64 cs)) {k : Nat} {y : Int} (hk : k < cs.length) :
    Own (hset h s.b (s.o + k) (.int .i64 y)) 1 s (ints64 (cs.set k y)) ∧ (hc h s.b (s.o + k)).isSome = true ∧ hfz h s.b (s.o + k) = false ∧ Mod (fun j => j = s.b) h (hset h s.b (s.o + k) (.int .i64 y)) ∧ s.nl = false := by
  have h1 := o.set (i := k) (v := .int .i64 y) (by simpa using hk)
  rw [ints64_set] at h1
  obtain ⟨arr, hb, hlt, hnl⟩ := o.blk (i := k) (by simpa using hk)
  refine ⟨h1, ?_, hb.hfz, Mod.set rfl, hnl⟩
  rw [hb.hc]
  simp [hlt]

def MeetI1 (v0 : Value) (B n : Nat) (sI sO sa : Sl) (as : List Tri) (h0 : Heap) (e : List Value) (h' : Heap) : Prop :=
  ∃ (i : Nat) (v5 v6 v7 v8 v12 v13 v14 v15 v16 v17 v18 : Value), e = [v0, .pointer (some ⟨B, 0, none⟩), .nilIface, sI.v, sO.v, v5, v6, v7, v8, sa.v, .int .i64 sa.n, .int .i64 i, v12, v13, v14, v15, v16, v17, v18] ∧ i ≤ sa.n ∧
    Own h' 1 sI (ints64 (insL n (as.take i))) ∧ Own h' 1 sO (ints64 (outsL n (as.take i))) ∧ Ext h0 h'
def MeetI2 (v0 : Value) (B : Nat) (sI sO sv : Sl) (N : NetD) (h0 : Heap) (e : List Value) (h' : Heap) : Prop :=
  ∃ (i : Nat) (v5 v6 v7 v8 v9 v10 v11 v12 v16 v17 v18 : Value), e = [v0, .pointer (some ⟨B, 0, none⟩), .nilIface, sI.v, sO.v, v5, v6, v7, v8, v9, v10, v11, v12, sv.v, .int .i64 sv.n, .int .i64 i, v16, v17, v18] ∧ i ≤ sv.n ∧
    meetW N 0 N.vs = meetW N i (N.vs.drop i) ∧ Ext h0 h'

theorem meet_spec (H : Y.Has F.net_meet S_net_meet) (HF : Y.Has F.net_fault S_net_fault) {sv sa st : Sl} {N : NetD} (r : NetH h sv sa st N) (bv : N.vs.length ≤ 4096) (ba : N.as.length ≤ 16384)
    (hA : ∀ i, i < N.as.length → vtxB N.vs.length (nthT N.as i).a = true ∧ vtxB N.vs.length (nthT N.as i).b = true) (hV : ∀ i, i < N.vs.length → vtxB N.ts.length (nthT N.vs i).c = true)
    {R : Value → Heap → Prop} (hr : ∀ v h', Ext h h' → FErr Y h.size h' (meetW N 0 N.vs) v → R v h') : CallP Y F.net_meet [netV sv sa st] h R := by
  have lv := r.rv.len
  have la := r.ra.len
  have lt := r.rt.len
  refine .of_has H rfl ?_
  simp [S_net_meet, FnS.wp, netV]
  refine ef_new_box ?_
  intro B h1 g1 B1 e1
  have q1 : (sv.n : Int) ≤ 9223372036854775807 := by omega
  have q2 : 8 * (sv.n : Int) ≤ 281474976710656 := by omega
  simp [B1.hc, ef_mkslice, zeros_one, q1, q2]
  intro t
  have o2 : Own (h1.push (.cells (Array.replicate sv.n (.int .i64 0)) t)) 1 (Sl.at h1.size sv.n sv.n) (ints64 (List.replicate sv.n 0)) := own_zero (by omega)
  have e2 : Ext h1 (h1.push (.cells (Array.replicate sv.n (.int .i64 0)) t)) := Mod.push
  have k2 : (h1.push (.cells (Array.replicate sv.n (.int .i64 0)) t)).size = h1.size + 1 := by simp
  generalize h1.push (.cells (Array.replicate sv.n (.int .i64 0)) t) = h2 at *
  have B2 := B1.ext e2
  simp [B2.hc, ef_mkslice, zeros_one, q1, q2]
  intro t'
  have o3 : Own (h2.push (.cells (Array.replicate sv.n (.int .i64 0)) t')) 1 (Sl.at h2.size sv.n sv.n) (ints64 (List.replicate sv.n 0)) := own_zero (by omega)
  have e3 : Ext h2 (h2.push (.cells (Array.replicate sv.n (.int .i64 0)) t')) := Mod.push
  have o23 := o2.mod e3 (fun _ h => h)
  have k3 : (h2.push (.cells (Array.replicate sv.n (.int .i64 0)) t')).size = h2.size + 1 := by simp
  generalize h2.push (.cells (Array.replicate sv.n (.int .i64 0)) t') = h3 at *
  have B3 := B2.ext e3
  have z1 := e1.size
  have lB := B1.lt
  obtain ⟨sI, hsI⟩ : ∃ sI, sI = Sl.at h1.size sv.n sv.n := ⟨_, rfl⟩
  obtain ⟨sO, hsO⟩ : ∃ sO, sO = Sl.at h2.size sv.n sv.n := ⟨_, rfl⟩
  have bI : sI.b = h1.size := by rw [hsI]; rfl
  have bO : sO.b = h2.size := by rw [hsO]; rfl
  have nI : sI.n = sv.n := by rw [hsI]; rfl
  have nO : sO.n = sv.n := by rw [hsO]; rfl
  have vI : (Value.slice (some ⟨h1.size, 0, none⟩) sv.n sv.n) = sI.v := by rw [hsI]; rfl
  have vO : (Value.slice (some ⟨h2.size, 0, none⟩) sv.n sv.n) = sO.v := by rw [hsO]; rfl
  rw [← hsI] at o23
  rw [← hsO] at o3
  have x3 := (e1.trans e2).trans e3
  simp [B3.hc, vI, vO]
  refine wp_loop' (MeetI1 (netV sv sa st) B sv.n sI sO sa N.as h1) (fun e _ => sa.n - argI e 11) ⟨0, _, _, _, _, _, _, _, _, _, _, _, rfl, by omega, by simpa [insL_nil] using o23, by simpa [outsL_nil] using o3, e2.trans e3⟩ ?_
  rintro e h4 ⟨i, v5, v6, v7, v8, v12, v13, v14, v15, v16, v17, v18, rfl, hi, oI, oO, x4⟩
  have B4 := B1.ext x4
  have r4 := r.ext (e1.trans x4)
  by_cases c : i < sa.n
  · have c' : (i : Int) < sa.n := by omega
    have w1 : IntKind.i64.wrap ((i : Int) + 1) = (i : Int) + 1 := i64_wrap (by omega)
    obtain ⟨hf, ht⟩ := hA i (by omega)
    simp only [vtxB, decide_eq_true_eq] at hf ht
    obtain ⟨f, hf'⟩ : ∃ f : Nat, (nthT N.as i).a = f := ⟨(nthT N.as i).a.toNat, by omega⟩
    obtain ⟨g, hg'⟩ : ∃ g : Nat, (nthT N.as i).b = g := ⟨(nthT N.as i).b.toNat, by omega⟩
    have rd4 := r4.ra.rd (i := i) (by omega)
    have st1 := insL_step (n := sv.n) (t := g) (by omega : i < N.as.length) hg' (by omega)
    have st2 := outsL_step (n := sv.n) (t := f) (by omega : i < N.as.length) hf' (by omega)
    rw [hf', hg'] at rd4
    rw [hf'] at hf
    rw [hg'] at ht
    simp [c', sem_idxa r4.ra.ok, rd4]
    refine new_store (vs := #[.int .i64 f, .int .i64 g, .int .i64 (nthT N.as i).c]) rfl rfl (by simp) ?_
    intro b5 h5' g5 B5' e5' st
    simp
    refine st _ ?_
    intro h5 B5 e5
    clear st B5' e5'
    have hgI : (g : Int) < sI.n := by omega
    have hfO : (f : Int) < sO.n := by omega
    have oI5 := oI.mod e5 (fun _ h => h)
    have oO5 := oO.mod e5 (fun _ h => h)
    have cI := oI5.row64.at (i := g) (by omega)
    rw [insL_at (by omega)] at cI
    have leI := insN_le (as := N.as.take i) (v := g)
    have leO := outsN_le (as := N.as.take i) (v := f)
    have hti : (N.as.take i).length ≤ 16384 := by rw [List.length_take]; omega
    have wI : IntKind.i64.wrap ((insN (N.as.take i) g : Int) + 1) = (insN (N.as.take i) g : Int) + 1 := i64_wrap (by omega)
    have wO : IntKind.i64.wrap ((outsN (N.as.take i) f : Int) + 1) = (outsN (N.as.take i) f : Int) + 1 := i64_wrap (by omega)
    obtain ⟨oI6, isI, fzI, m6, _⟩ := own_set64 oI5 (k := g) (y := (insN (N.as.take i) g : Int) + 1) (by simp; omega)
    rw [st1] at oI6
    simp [B5.hc, sem_idxa oI5.ok, hgI, cI, wI, StoreP.open, isI, fzI]
    have ltI := oI.lt (by rw [hsI]; rfl)
    have hb4 : b5 ≠ sI.b := by omega
    have B6 := m6.blk B5 hb4
    have oO6 := oO5.mod m6 (fun _ hj => by omega)
    have x6 : Ext h1 (hset h5 sI.b (sI.o + g) (.int .i64 ((insN (N.as.take i) g : Int) + 1))) := Mod.ext (x4.trans e5) m6 (fun j hj => by omega)
    generalize hset h5 sI.b (sI.o + g) (.int .i64 ((insN (N.as.take i) g : Int) + 1)) = h6 at *
    have cO := oO6.row64.at (i := f) (by omega)
    rw [outsL_at (by omega)] at cO
    obtain ⟨oO7, isO, fzO, m7, _⟩ := own_set64 oO6 (k := f) (y := (outsN (N.as.take i) f : Int) + 1) (by simp; omega)
    rw [st2] at oO7
    simp [B6.hc, sem_idxa oO6.ok, hfO, cO, wO, StoreP.open, isO, fzO, w1]
    have oI7 := oI6.mod m7 (fun _ hj => by omega)
    have x7 : Ext h1 (hset h6 sO.b (sO.o + f) (.int .i64 ((outsN (N.as.take i) f : Int) + 1))) := Mod.ext x6 m7 (fun j hj => by omega)
    exact ⟨⟨i + 1, _, _, _, _, _, _, _, _, _, _, _, rfl, by omega, oI7, oO7, x7⟩, by simp [argI]; omega⟩
  have c' : ¬ (i : Int) < sa.n := by omega
  obtain rfl : i = sa.n := by omega
  rw [List.take_of_length_le (by omega)] at oI oO
  simp [B4.hc]
  refine wp_loop' (MeetI2 (netV sv sa st) B sI sO sv N h4) (fun e _ => sv.n - argI e 15) ⟨0, _, _, _, _, _, _, _, _, _, _, _, rfl, by omega, by simp, Mod.refl h4⟩ ?_
  clear c c' hi v5 v6 v7 v8 v12 v13 v14 v15 v16 v17 v18
  rintro e h5 ⟨i, v5, v6, v7, v8, v9, v10, v11, v12, v16, v17, v18, rfl, hi, hm, x5⟩
  have B5 := B4.ext x5
  have r5 := r4.ext x5
  have oI5 := oI.mod x5 (fun _ h => h)
  have oO5 := oO.mod x5 (fun _ h => h)
  have y5 := (e1.trans x4).trans x5
  by_cases c : i < sv.n
  · have c' : (i : Int) < sv.n := by omega
    have w1 : IntKind.i64.wrap ((i : Int) + 1) = (i : Int) + 1 := i64_wrap (by omega)
    rw [meetW_drop (by omega)] at hm
    have ht := hV i (by omega)
    simp only [vtxB, decide_eq_true_eq] at ht
    obtain ⟨f, hf'⟩ : ∃ f : Nat, (nthT N.vs i).c = f := ⟨(nthT N.vs i).c.toNat, by omega⟩
    have rd5 := r5.rv.rd (i := i) (by omega)
    rw [hf'] at rd5 ht
    simp [c', sem_idxa r5.rv.ok, rd5]
    refine new_store (vs := #[.int .i64 (nthT N.vs i).a, .int .i64 (nthT N.vs i).b, .int .i64 f]) rfl rfl (by simp) ?_
    intro b6 h6' g6 B6' e6' st'
    simp
    refine st' _ ?_
    intro h6 B6 e6
    clear st' B6' e6'
    have r6 := r5.ext e6
    have B56 := B5.ext e6
    obtain ⟨u, rdt, _, ru⟩ := r6.rt.rd (i := f) (by omega)
    have hft : (f : Int) < st.n := by omega
    simp [B56.hc, B6.hc, sem_idxa r6.rt.ok, hft, rdt]
    refine new_store (vs := #[.int .i64 (nthB N.ts f).i, .int .i64 (nthB N.ts f).o, u.v]) rfl rfl (by simp) ?_
    intro b7 h7' g7 B7' e7' st'
    simp
    refine st' _ ?_
    intro h7 B7 e7
    clear st' B7' e7'
    have oI7 := (oI5.mod e6 (fun _ h => h)).mod e7 (fun _ h => h)
    have oO7 := (oO5.mod e6 (fun _ h => h)).mod e7 (fun _ h => h)
    have cI := oI7.row64.at (i := i) (by omega)
    rw [insL_at (by omega)] at cI
    have cO := oO7.row64.at (i := i) (by omega)
    rw [outsL_at (by omega)] at cO
    have hiI : (i : Int) < sI.n := by omega
    have hiO : (i : Int) < sO.n := by omega
    have y7 := (y5.trans e6).trans e7
    have hmt : meet1 N i (nthT N.vs i) = if 16 < insN N.as i ∨ 16 < outsN N.as i then atW wVert i 4
        else if (nthB N.ts f).i ≠ insN N.as i ∨ (nthB N.ts f).o ≠ outsN N.as i then atW wVert i 9 else wOK := by
      simp [meet1, hf']
    generalize insN N.as i = a at *
    generalize outsN N.as i = b at *
    have fin4 : (16 < a ∨ 16 < b) → ∀ {K : Value → Heap → Prop}, (∀ v h', Ext h h' → FErr Y h.size h' (meetW N 0 N.vs) v → K v h') → CallP Y F.net_fault [.string wVert, .int .i64 i, .iface (Y.tid Ty.api_Errno) (.int .i64 4)] h7 K := by
      intro hab K hK
      refine nfault_spec HF (by omega) ?_
      intro v h8 e8 hv _
      refine hK v h8 (y7.trans e8) ?_
      rw [hm, hmt, if_pos hab]
      simp only [atW]
      exact hv.mono y7.size
    have fin9 : ¬ (16 < a ∨ 16 < b) → ((nthB N.ts f).i ≠ a ∨ (nthB N.ts f).o ≠ b) → ∀ {K : Value → Heap → Prop}, (∀ v h', Ext h h' → FErr Y h.size h' (meetW N 0 N.vs) v → K v h') → CallP Y F.net_fault [.string wVert, .int .i64 i, .iface (Y.tid Ty.api_Errno) (.int .i64 9)] h7 K := by
      intro hab hab' K hK
      refine nfault_spec HF (by omega) ?_
      intro v h8 e8 hv _
      refine hK v h8 (y7.trans e8) ?_
      rw [hm, hmt, if_neg hab, if_pos hab']
      simp only [atW]
      exact hv.mono y7.size
    by_cases ca : 16 < a
    · have ca' : (16 : Int) < a := by omega
      simp [B6.ext e7 |>.hc, B7.hc, sem_idxa oI7.ok, hiI, cI, ca']
      refine fin4 (.inl ca) ?_
      intro v h8 e8 hv
      simp
      exact hr _ _ e8 hv
    have ca' : ¬ (16 : Int) < a := by omega
    by_cases cb : 16 < b
    · have cb' : (16 : Int) < b := by omega
      simp [B7.hc, sem_idxa oI7.ok, sem_idxa oO7.ok, hiI, hiO, cI, cO, ca', cb']
      refine fin4 (.inr cb) ?_
      intro v h8 e8 hv
      simp
      exact hr _ _ e8 hv
    have cb' : ¬ (16 : Int) < b := by omega
    have cab : ¬ (16 < a ∨ 16 < b) := by omega
    by_cases cc : (nthB N.ts f).i = a
    rotate_left
    · have cc' : ((nthB N.ts f).i = (a : Int)) = False := by simp [cc]
      simp [B7.hc, sem_idxa oI7.ok, sem_idxa oO7.ok, hiI, hiO, cI, cO, ca', cb', cc']
      refine fin9 cab (.inl cc) ?_
      intro v h8 e8 hv
      simp
      exact hr _ _ e8 hv
    have cc' : ((nthB N.ts f).i = (a : Int)) = True := by simp [cc]
    by_cases cd : (nthB N.ts f).o = b
    rotate_left
    · have cd' : ((nthB N.ts f).o = (b : Int)) = False := by simp [cd]
      simp [B7.hc, sem_idxa oI7.ok, sem_idxa oO7.ok, hiI, hiO, cI, cO, ca', cb', cc', cd']
      refine fin9 cab (.inr cd) ?_
      intro v h8 e8 hv
      simp
      exact hr _ _ e8 hv
    have cd' : ((nthB N.ts f).o = (b : Int)) = True := by simp [cd]
    simp [B7.hc, sem_idxa oI7.ok, sem_idxa oO7.ok, hiI, hiO, cI, cO, ca', cb', cc', cd', w1]
    refine ⟨⟨i + 1, _, _, _, _, _, _, _, _, _, _, _, rfl, by omega, ?_, (x5.trans e6).trans e7⟩, by simp [argI]; omega⟩
    have hmt' : meet1 N i (nthT N.vs i) = wOK := by
      rw [hmt, if_neg cab]
      simp [cc, cd]
    rw [hm, hmt', if_neg (by simp [wOK])]
  have c' : ¬ (i : Int) < sv.n := by omega
  rw [List.drop_eq_nil_of_le (by omega), meetW] at hm
  simp [c']
  refine hr _ _ y5 ?_
  rw [hm]
  exact FErr.ok
end
end Go.Rm

/- Package net: Check. -/
set_option linter.unusedSimpArgs false
set_option linter.unusedVariables false
namespace Go.Rm

def CkI1 (v0 : Value) (B : Nat) (st : Sl) (ts : List Tab) (h0 : Heap) (e : List Value) (h' : Heap) : Prop :=
  ∃ (i : Nat) (v3 v4 v5 v6 v7 v8 v9 v10 v11 v12 v16 v17 v18 v19 v20 v21 v22 v23 v24 v25 v26 v27 v28 v29 : Value),
    e = [v0, .pointer (some ⟨B, 0, none⟩), .nilIface, v3, v4, v5, v6, v7, v8, v9, v10, v11, v12, st.v, .int .i64 st.n, .int .i64 i, v16, v17, v18, v19, v20, v21, v22, v23, v24, v25, v26, v27, v28, v29] ∧ i ≤ st.n ∧ typesW 0 ts = typesW i (ts.drop i) ∧ Ext h0 h'
def CkI2 (v0 : Value) (B nt : Nat) (sv : Sl) (vs : List Tri) (h0 : Heap) (e : List Value) (h' : Heap) : Prop :=
  ∃ (i : Nat) (v3 v4 v5 v6 v7 v8 v9 v10 v11 v12 v13 v14 v15 v16 v17 v21 v22 v23 v24 v25 v26 v27 v28 v29 : Value),
    e = [v0, .pointer (some ⟨B, 0, none⟩), .nilIface, v3, v4, v5, v6, v7, v8, v9, v10, v11, v12, v13, v14, v15, v16, v17, sv.v, .int .i64 sv.n, .int .i64 i, v21, v22, v23, v24, v25, v26, v27, v28, v29] ∧ i ≤ sv.n ∧ vertsW nt 0 vs = vertsW nt i (vs.drop i) ∧ (∀ j, j < i → vtxB nt (nthT vs j).c = true) ∧ Ext h0 h'
def CkI3 (v0 : Value) (B nv : Nat) (sa : Sl) (as : List Tri) (h0 : Heap) (e : List Value) (h' : Heap) : Prop :=
  ∃ (i : Nat) (v3 v4 v5 v6 v7 v8 v9 v10 v11 v12 v13 v14 v15 v16 v17 v18 v19 v20 v21 v22 v23 v27 v28 v29 : Value),
    e = [v0, .pointer (some ⟨B, 0, none⟩), .nilIface, v3, v4, v5, v6, v7, v8, v9, v10, v11, v12, v13, v14, v15, v16, v17, v18, v19, v20, v21, v22, v23, sa.v, .int .i64 sa.n, .int .i64 i, v27, v28, v29] ∧ i ≤ sa.n ∧ arcsW nv 0 as = arcsW nv i (as.drop i) ∧ (∀ j, j < i → vtxB nv (nthT as j).a = true ∧ vtxB nv (nthT as j).b = true) ∧ Ext h0 h'

structure NetFns (Y : Sys) : Prop where
  Check : Y.Has F.net_Check S_net_Check
  fault : Y.Has F.net_fault S_net_fault
  meet : Y.Has F.net_meet S_net_meet
  far : Y.Has F.net_far S_net_far
  vertex : Y.Has F.net_vertex S_net_vertex

theorem orW_l {a b : Wr} (h : a.2 ≠ 0) : orW a b = a := if_pos h
theorem orW_r {a b : Wr} (h : a.2 = 0) : orW a b = b := if_neg (by simp [h])

section
variable {Y : Sys} {h : Heap}

theorem ncheck_spec (NF : NetFns Y) (T : TurnCk Y) {sv sa st : Sl} {N : NetD} (r : NetH h sv sa st N)
    {R : Value → Heap → Prop} (hr : ∀ v h', Ext h h' → FErr Y h.size h' (netW N) v → R v h') : CallP Y F.net_Check [netV sv sa st] h R := by
  have lv := r.rv.len
  have la := r.ra.len
  have lt := r.rt.len
  refine .of_has NF.Check rfl ?_
  simp [S_net_Check, FnS.wp, netV]
  refine ef_new_box ?_
  intro B h1 g1 B1 e1
  have z1 := e1.size
  have lB := B1.lt
  -- a fault of a number, here and now
  have fin : ∀ {h2 : Heap} {p : ByteArray} {k e : Int} {K : Value → Heap → Prop}, Ext h h2 → e ≠ 0 → netW N = atW p k e → (∀ v h', Ext h h' → FErr Y h.size h' (netW N) v → K v h') →
      CallP Y F.net_fault [.string p, .int .i64 k, .iface (Y.tid Ty.api_Errno) (.int .i64 e)] h2 K := by
    intro h2 p k e K x he hw hK
    refine nfault_spec NF.fault he ?_
    intro v h3 e3 hv _
    refine hK v h3 (x.trans e3) ?_
    rw [hw]
    exact hv.mono x.size
  simp [B1.hc]
  by_cases c1 : 4096 < sv.n
  · have c1' : (4096 : Int) < sv.n := by omega
    have hw : netW N = atW wNet 0 4 := by
      unfold netW; rw [orW_l] <;> simp [sizeW, lv, c1, atW]
    simp [c1']
    refine fin e1 (by omega) hw ?_
    intro v h2 x2 hv
    simp
    exact hr _ _ x2 hv
  have c1' : ¬ (4096 : Int) < sv.n := by omega
  by_cases c2 : 16384 < sa.n
  · have c2' : (16384 : Int) < sa.n := by omega
    have hw : netW N = atW wNet 1 4 := by
      unfold netW; rw [orW_l] <;> simp [sizeW, lv, la, c1, c2, atW]
    simp [c1', c2']
    refine fin e1 (by omega) hw ?_
    intro v h2 x2 hv
    simp
    exact hr _ _ x2 hv
  have c2' : ¬ (16384 : Int) < sa.n := by omega
  by_cases c3 : 256 < st.n
  · have c3' : (256 : Int) < st.n := by omega
    have hw : netW N = atW wNet 2 4 := by
      unfold netW; rw [orW_l] <;> simp [sizeW, lv, la, lt, c1, c2, c3, atW]
    simp [c1', c2', c3']
    refine fin e1 (by omega) hw ?_
    intro v h2 x2 hv
    simp
    exact hr _ _ x2 hv
  have c3' : ¬ (256 : Int) < st.n := by omega
  have hw0 : netW N = orW (typesW 0 N.ts) (orW (vertsW N.ts.length 0 N.vs) (orW (arcsW N.vs.length 0 N.as) (meetW N 0 N.vs))) := by
    unfold netW; rw [orW_r]; simp [sizeW, lv, la, lt, c1, c2, c3, wOK]
  simp [c1', c2', c3', B1.hc]
  refine wp_loop' (CkI1 (netV sv sa st) B st N.ts h1) (fun e _ => st.n - argI e 15) ⟨0, _, _, _, _, _, _, _, _, _, _, _, _, _, _, _, _, _, _, _, _, _, _, _, _, rfl, by omega, by simp, Mod.refl h1⟩ ?_
  rintro e h2 ⟨i, v3, v4, v5, v6, v7, v8, v9, v10, v11, v12, v16, v17, v18, v19, v20, v21, v22, v23, v24, v25, v26, v27, v28, v29, rfl, hi, hm, x2⟩
  have y2 := e1.trans x2
  have B2 := B1.ext x2
  by_cases c : i < st.n
  · have c' : (i : Int) < st.n := by omega
    have w1 : IntKind.i64.wrap ((i : Int) + 1) = (i : Int) + 1 := i64_wrap (by omega)
    rw [typesW_drop (by omega)] at hm
    obtain ⟨q, rdt, _, rq⟩ := (r.ext y2).rt.rd (i := i) (by omega)
    simp [c', sem_idxa (r.ext y2).rt.ok, rdt]
    refine new_store (vs := #[.int .i64 (nthB N.ts i).i, .int .i64 (nthB N.ts i).o, q.v]) rfl rfl (by simp) ?_
    intro b3 h3' g3 B3' e3' st'
    simp
    refine st' _ ?_
    intro h3 B3 e3
    clear st' B3' e3'
    have y3 := y2.trans e3
    simp [rd_blk B3]
    refine check_spec T (rq.ext e3) ?_
    intro v4 h4 e4 hv4
    have y4 := y3.trans e4
    rw [show tabW (nthB N.ts i).i (nthB N.ts i).o (nthB N.ts i).cs = tabWr (nthB N.ts i) from rfl] at hv4
    by_cases h0 : (tabWr (nthB N.ts i)).2 = 0
    · have := hv4.here.nil h0
      subst this
      rw [if_neg (by simp [h0])] at hm
      simp [w1]
      exact ⟨⟨i + 1, _, _, _, _, _, _, _, _, _, _, _, _, _, _, _, _, _, _, _, _, _, _, _, _, rfl, by omega, hm, (x2.trans e3).trans e4⟩, by simp [argI]; omega⟩
    · rw [if_pos h0] at hm
      have hw2 : (withinW wType i (tabWr (nthB N.ts i))).2 ≠ 0 := by unfold withinW; rw [if_neg h0]; exact h0
      have hw : netW N = withinW wType i (tabWr (nthB N.ts i)) := by rw [hw0, hm, orW_l hw2]
      obtain ⟨t4, u4, rfl⟩ := hv4.here.iface h0
      simp
      refine nfault2_spec NF.fault (lo := h.size) (by have := y4.size; omega) (hv4.mono (by have := y3.size; omega)) h0 ?_
      intro v5 h5 e5 hv5 _
      simp
      refine hr _ _ (y4.trans e5) ?_
      rw [hw]
      exact hv5
  have c' : ¬ (i : Int) < st.n := by omega
  rw [List.drop_eq_nil_of_le (by omega), typesW] at hm
  have hw1 : netW N = orW (vertsW N.ts.length 0 N.vs) (orW (arcsW N.vs.length 0 N.as) (meetW N 0 N.vs)) := by rw [hw0, hm, orW_r rfl]
  simp [c', B2.hc]
  refine wp_loop' (CkI2 (netV sv sa st) B N.ts.length sv N.vs h2) (fun e _ => sv.n - argI e 20) ⟨0, _, _, _, _, _, _, _, _, _, _, _, _, _, _, _, _, _, _, _, _, _, _, _, _, rfl, by omega, by simp, fun j hj => by omega, Mod.refl h2⟩ ?_
  clear c c' hi hm v3 v4 v5 v6 v7 v8 v9 v10 v11 v12 v16 v17 v18 v19 v20 v21 v22 v23 v24 v25 v26 v27 v28 v29
  rintro e h3 ⟨i, v3, v4, v5, v6, v7, v8, v9, v10, v11, v12, v13, v14, v15, v16, v17, v21, v22, v23, v24, v25, v26, v27, v28, v29, rfl, hi, hm, hall, x3⟩
  have y3 := y2.trans x3
  have B3 := B2.ext x3
  by_cases c : i < sv.n
  · have c' : (i : Int) < sv.n := by omega
    have w1 : IntKind.i64.wrap ((i : Int) + 1) = (i : Int) + 1 := i64_wrap (by omega)
    rw [vertsW_drop (by omega)] at hm
    have rd3 := (r.ext y3).rv.rd (i := i) (by omega)
    simp [c', sem_idxa (r.ext y3).rv.ok, rd3]
    refine new_store (vs := #[.int .i64 (nthT N.vs i).a, .int .i64 (nthT N.vs i).b, .int .i64 (nthT N.vs i).c]) rfl rfl (by simp) ?_
    intro b4 h4' g4 B4' e4' st'
    simp
    refine st' _ ?_
    intro h4 B4 e4
    clear st' B4' e4'
    have y4 := y3.trans e4
    have B14 := B3.ext e4
    have done1 : (vertW N.ts.length i (nthT N.vs i)).2 ≠ 0 → netW N = vertW N.ts.length i (nthT N.vs i) := by
      intro hne
      rw [if_pos hne] at hm
      rw [hw1, hm, orW_l hne]
    simp [B4.hc]
    refine far_spec NF.far ?_
    by_cases f1 : farB (nthT N.vs i).a = true
    · have hv : vertW N.ts.length i (nthT N.vs i) = atW wVert i 1 := by simp [vertW, f1]
      simp [f1]
      refine fin y4 (by omega) (by rw [done1 (by rw [hv]; simp [atW]), hv]) ?_
      intro v h5 x5 hv5
      simp
      exact hr _ _ x5 hv5
    simp [f1, B4.hc]
    refine far_spec NF.far ?_
    by_cases f2 : farB (nthT N.vs i).b = true
    · have hv : vertW N.ts.length i (nthT N.vs i) = atW wVert i 1 := by simp [vertW, f2]
      simp [f2]
      refine fin y4 (by omega) (by rw [done1 (by rw [hv]; simp [atW]), hv]) ?_
      intro v h5 x5 hv5
      simp
      exact hr _ _ x5 hv5
    have hv0 : vertW N.ts.length i (nthT N.vs i) = if vtxB N.ts.length (nthT N.vs i).c then wOK else atW wVert i 5 := by simp [vertW, f1, f2]
    by_cases f3 : (nthT N.vs i).c < 0
    · have hv : vertW N.ts.length i (nthT N.vs i) = atW wVert i 5 := by
        rw [hv0, if_neg]; simp [vtxB]; omega
      simp [f2, B4.hc, f3]
      refine fin y4 (by omega) (by rw [done1 (by rw [hv]; simp [atW]), hv]) ?_
      intro v h5 x5 hv5
      simp
      exact hr _ _ x5 hv5
    by_cases f4 : (st.n : Int) ≤ (nthT N.vs i).c
    · have hv : vertW N.ts.length i (nthT N.vs i) = atW wVert i 5 := by
        rw [hv0, if_neg]; simp [vtxB]; omega
      simp [f2, B4.hc, B14.hc, f3, f4]
      refine fin y4 (by omega) (by rw [done1 (by rw [hv]; simp [atW]), hv]) ?_
      intro v h5 x5 hv5
      simp
      exact hr _ _ x5 hv5
    have hok : vtxB N.ts.length (nthT N.vs i).c = true := by simp [vtxB]; omega
    have hv : vertW N.ts.length i (nthT N.vs i) = wOK := by rw [hv0, if_pos hok]
    rw [hv, if_neg (by simp [wOK])] at hm
    simp [f2, B4.hc, B14.hc, f3, f4, w1]
    refine ⟨⟨i + 1, _, _, _, _, _, _, _, _, _, _, _, _, _, _, _, _, _, _, _, _, _, _, _, _, rfl, by omega, hm, fun j hj => ?_, x3.trans e4⟩, by simp [argI]; omega⟩
    rcases Nat.lt_or_ge j i with q | q
    · exact hall j q
    · obtain rfl : j = i := by omega
      exact hok
  have c' : ¬ (i : Int) < sv.n := by omega
  obtain rfl : i = sv.n := by omega
  rw [List.drop_eq_nil_of_le (by omega), vertsW] at hm
  have hw2 : netW N = orW (arcsW N.vs.length 0 N.as) (meetW N 0 N.vs) := by rw [hw1, hm, orW_r rfl]
  have hV : ∀ i, i < N.vs.length → vtxB N.ts.length (nthT N.vs i).c = true := fun i hi => hall i (by omega)
  simp [B3.hc]
  refine wp_loop' (CkI3 (netV sv sa st) B N.vs.length sa N.as h3) (fun e _ => sa.n - argI e 26) ⟨0, _, _, _, _, _, _, _, _, _, _, _, _, _, _, _, _, _, _, _, _, _, _, _, _, rfl, by omega, by simp, fun j hj => by omega, Mod.refl h3⟩ ?_
  clear c c' hi hm hall v3 v4 v5 v6 v7 v8 v9 v10 v11 v12 v13 v14 v15 v16 v17 v21 v22 v23 v24 v25 v26 v27 v28 v29
  rintro e h4 ⟨i, v3, v4, v5, v6, v7, v8, v9, v10, v11, v12, v13, v14, v15, v16, v17, v18, v19, v20, v21, v22, v23, v27, v28, v29, rfl, hi, hm, hall, x4⟩
  have y4 := y3.trans x4
  have B4 := B3.ext x4
  by_cases c : i < sa.n
  · have c' : (i : Int) < sa.n := by omega
    have w1 : IntKind.i64.wrap ((i : Int) + 1) = (i : Int) + 1 := i64_wrap (by omega)
    rw [arcsW_drop (by omega)] at hm
    have rd4 := (r.ext y4).ra.rd (i := i) (by omega)
    simp [c', sem_idxa (r.ext y4).ra.ok, rd4]
    refine new_store (vs := #[.int .i64 (nthT N.as i).a, .int .i64 (nthT N.as i).b, .int .i64 (nthT N.as i).c]) rfl rfl (by simp) ?_
    intro b5 h5' g5 B5' e5' st'
    simp
    refine st' _ ?_
    intro h5 B5 e5
    clear st' B5' e5'
    have y5 := y4.trans e5
    have B15 := B4.ext e5
    have done1 : (arcW N.vs.length i (nthT N.as i)).2 ≠ 0 → netW N = arcW N.vs.length i (nthT N.as i) := by
      intro hne
      rw [if_pos hne] at hm
      rw [hw2, hm, orW_l hne]
    simp [rd_blk B15, B5.hc]
    refine vertex_spec NF.vertex lv ?_
    intro h6 e6
    have y6 := y5.trans e6
    have B16 := B15.ext e6
    have B6 := B5.ext e6
    by_cases f1 : vtxB N.vs.length (nthT N.as i).a = true
    rotate_left
    · have hv : arcW N.vs.length i (nthT N.as i) = atW wArc i 5 := by simp [arcW, f1]
      simp [f1]
      refine fin y6 (by omega) (by rw [done1 (by rw [hv]; simp [atW]), hv]) ?_
      intro v h7 x7 hv7
      simp
      exact hr _ _ x7 hv7
    simp [f1, rd_blk B16, B6.hc]
    refine vertex_spec NF.vertex lv ?_
    intro h7 e7
    have y7 := y6.trans e7
    have B7 := B6.ext e7
    by_cases f2 : vtxB N.vs.length (nthT N.as i).b = true
    rotate_left
    · have hv : arcW N.vs.length i (nthT N.as i) = atW wArc i 5 := by simp [arcW, f1, f2]
      simp [f2]
      refine fin y7 (by omega) (by rw [done1 (by rw [hv]; simp [atW]), hv]) ?_
      intro v h8 x8 hv8
      simp
      exact hr _ _ x8 hv8
    simp [f2, B7.hc]
    refine weight_spec T.Weight ?_
    by_cases f3 : weightB (nthT N.as i).c = true
    rotate_left
    · have hv : arcW N.vs.length i (nthT N.as i) = atW wArc i 8 := by simp [arcW, f1, f2, f3]
      simp [f3]
      refine fin y7 (by omega) (by rw [done1 (by rw [hv]; simp [atW]), hv]) ?_
      intro v h8 x8 hv8
      simp
      exact hr _ _ x8 hv8
    have hv : arcW N.vs.length i (nthT N.as i) = wOK := by simp [arcW, f1, f2, f3]
    rw [hv, if_neg (by simp [wOK])] at hm
    simp [f3, w1]
    refine ⟨⟨i + 1, _, _, _, _, _, _, _, _, _, _, _, _, _, _, _, _, _, _, _, _, _, _, _, _, rfl, by omega, hm, fun j hj => ?_, ((x4.trans e5).trans e6).trans e7⟩, by simp [argI]; omega⟩
    rcases Nat.lt_or_ge j i with q | q
    · exact hall j q
    · obtain rfl : j = i := by omega
      exact ⟨f1, f2⟩
  have c' : ¬ (i : Int) < sa.n := by omega
  obtain rfl : i = sa.n := by omega
  rw [List.drop_eq_nil_of_le (by omega), arcsW] at hm
  have hw3 : netW N = meetW N 0 N.vs := by rw [hw2, hm, orW_r rfl]
  simp [rd_blk B4]
  refine meet_spec NF.meet NF.fault (r.ext y4) (by omega) (by omega) (fun i hi => hall i (by omega)) hV ?_
  intro v h5 e5 hv
  simp
  refine hr _ _ (y4.trans e5) ?_
  rw [hw3]
  exact hv.mono y4.size
end
end Go.Rm

/- The document's nets: There, Place. -/
set_option linter.unusedSimpArgs false
set_option linter.unusedVariables false
namespace Go.Rm

/-- the place of a number in a row from place k on, or -1 -/
def placeF : Nat → List Int → Int → Int
  | _, [], _ => -1
  | k, x :: r, a => if x = a then k else placeF (k + 1) r a
theorem placeF_drop {l : List Int} {i : Nat} {a : Int} (hi : i < l.length) : placeF i (l.drop i) a = if nthI l i = a then (i : Int) else placeF (i + 1) (l.drop (i + 1)) a := by
  rw [List.drop_eq_getElem_cons hi, placeF]
  simp [nthI, hi]

section
variable {Y : Sys} {h : Heap}

theorem there_spec (H : Y.Has F.rref6_There S_rref6_There) {sv sa st : Sl} {N : NetD} (la : N.as.length = sa.n) {v : Int} {R : Value → Heap → Prop} (hr : ∀ h', Ext h h' → R (.bool (vtxB N.as.length v)) h') : CallP Y F.rref6_There [netV sv sa st, .int .i64 v] h R := by
  refine .of_has H rfl ?_
  simp [S_rref6_There, FnS.wp, netV]
  refine ef_new_box ?_
  intro b h1 g1 B1 e1
  rw [la] at hr
  by_cases c : 0 ≤ v
  · have : vtxB sa.n v = decide (v < sa.n) := by simp [vtxB, c]
    rw [this] at hr
    simp [c, B1.hc]
    exact hr _ e1
  · have : vtxB sa.n v = false := by simp [vtxB, c]
    rw [this] at hr
    simp [c]
    exact hr _ e1

end
end Go.Rm

/- The document's nets: Within. -/
set_option linter.unusedSimpArgs false
set_option linter.unusedVariables false
namespace Go.Rm

section
variable {Y : Sys} {h : Heap}

def partsL (ps : List (ByteArray × Int)) : List Value := ps.flatMap fun p => [.string p.1, .int .i64 p.2]
theorem partsL_len {ps : List (ByteArray × Int)} : (partsL ps).length = ps.length * 2 := by
  induction ps with
  | nil => rfl
  | cons t r ih => simp only [partsL, List.flatMap_cons, List.length_append, List.length_cons, List.length_nil] at ih ⊢; omega
theorem partsL_get {ps : List (ByteArray × Int)} : ∀ {i : Nat} {x : ByteArray × Int}, ps[i]? = some x → (partsL ps)[i * 2]? = some (.string x.1) ∧ (partsL ps)[i * 2 + 1]? = some (.int .i64 x.2) := by
  induction ps with
  | nil => intro i x hx; simp at hx
  | cons t r ih =>
    intro i x hx
    have e : partsL (t :: r) = .string t.1 :: .int .i64 t.2 :: partsL r := rfl
    rw [e]
    cases i with
    | zero => simp at hx; subst hx; simp
    | succ i =>
      have := ih (i := i) (x := x) (by simpa using hx)
      have q0 : (i + 1) * 2 = i * 2 + 1 + 1 := by omega
      have q1 : (i + 1) * 2 + 1 = i * 2 + 1 + 1 + 1 := by omega
      rw [q1, q0]
      simp only [List.getElem?_cons_succ]
      exact this
theorem PartsAt.rd {s : Sl} {ps : List (ByteArray × Int)} (p : PartsAt h s ps) : rd h s.b s.o (ps.length * 2) = some (partsL ps) := by
  have := rd_of (h := h) (b := s.b) (l := partsL ps) (o := s.o) fun j v hj => by
    have hlt : j < ps.length * 2 := by
      have := (List.getElem?_eq_some_iff.1 hj).1
      rwa [partsL_len] at this
    have hx : ps[j / 2]? = some ps[j / 2] := List.getElem?_eq_getElem (by omega)
    obtain ⟨g0, g1⟩ := partsL_get hx
    obtain ⟨k0, k1⟩ := p.p _ _ hx
    rcases Nat.mod_two_eq_zero_or_one j with m | m
    · have e : j = j / 2 * 2 := by omega
      rw [← e] at g0 k0
      rw [hj] at g0
      cases g0
      exact k0
    · have e : j = j / 2 * 2 + 1 := by omega
      rw [← e] at g1
      rw [hj] at g1
      cases g1
      rw [show s.o + j = s.o + j / 2 * 2 + 1 by omega]
      exact k1
  rwa [partsL_len] at this
theorem Own.partsAt {s : Sl} {ps : List (ByteArray × Int)} (o : Own h 2 s (partsL ps)) : PartsAt h s ps := by
  have hn := o.1
  rw [partsL_len] at hn
  refine ⟨o.ok, by omega, fun i x hx => ?_⟩
  obtain ⟨a, b⟩ := partsL_get hx
  exact ⟨o.cell a, o.cell b⟩
theorem srcOf_parts {s : Sl} {ps : List (ByteArray × Int)} (p : PartsAt h s ps) : srcOf h 2 s.n s.v = some (partsL ps) := by
  have hr := p.rd
  rw [p.len] at hr
  unfold Sl.v
  cases hnl : s.nl with
  | true =>
    have : ps = [] := List.eq_nil_of_length_eq_zero (by rw [p.len]; exact (p.ok.nil hnl).1)
    subst this
    rfl
  | false =>
    cases hsp : s.sp with
    | none => simp only [Bool.false_eq_true, if_false, srcOf]; exact hr
    | some q =>
      have h0 : s.n = 0 := by
        have := p.ok.spot.resolve_left (by rw [hsp]; simp)
        have := p.ok.le; omega
      have : ps = [] := List.eq_nil_of_length_eq_zero (by rw [p.len]; exact h0)
      subst this
      simp [srcOf, h0, partsL]
theorem partsL_one {ps : List (ByteArray × Int)} : ∀ v ∈ partsL ps, v.oneCell' = true := by
  intro v hv
  simp only [partsL, List.mem_flatMap, List.mem_cons, List.not_mem_nil, or_false] at hv
  obtain ⟨q, _, rfl | rfl⟩ := hv <;> rfl

theorem rwithin_spec (HW : Y.Has F.rref6_Within S_rref6_Within) {p : ByteArray} {a : Int} {w : Wr} {v : Value} (hv : WrongV h w.1 w.2 v) (h0 : w.2 ≠ 0) (hbig : w.1.length ≤ 4) {R : Value → Heap → Prop}
    (hr : ∀ h' v', Ext h h' → FWr h.size h' (withinW p a w) v' → R v' h') : CallP Y F.rref6_Within [.string p, .int .i64 a, v] h R := by
  obtain ⟨s, rfl, hp⟩ := hv
  have hn := hp.len
  refine .of_has HW rfl ?_
  simp [S_rref6_Within, FnS.wp]
  refine ef_new_box ?_
  intro b h1 g1 B1 e1
  simp
  refine ef_new_box ?_
  intro rb h2 g2 B2 e2
  have B12 := B1.ext e2
  have z1 := e1.size
  have z2 := e2.size
  have lB := B2.lt
  simp [B12.hc, h0, ef_bslice_part]
  intro t
  have e3 : Ext h2 (h2.push (.cells #[.string p, .int .i64 a] t)) := Mod.push
  have B13 := B12.ext e3
  have B23 := B2.ext e3
  have p3 := ((hp.ext e1).ext e2).ext e3
  have o3 : Own (h2.push (.cells #[.string p, .int .i64 a] t)) 2 (Sl.at h2.size 1 1) (partsL [(p, a)]) :=
    ⟨by simp [partsL], .inr ⟨rfl, rfl, rfl, Nat.le_refl _, by simp, _, Blk.new, by simp, by simp [partsL]⟩⟩
  simp [B13.hc]
  rw [← Sl.at_v]
  refine ef_append_own o3 (m := s.n) (nw := partsL w.1) lenV_slv (srcOf_parts p3) (by rw [partsL_len, hn]) partsL_one rfl (by simp; omega) (by simp; omega) ?_
  intro s' h4 o4 hn4 m4 hs4
  have e4 : Ext h2 h4 := Mod.ext e3 m4 (fun j hj => by have := hj.2; simp at this; omega)
  have B14 := B12.ext e4
  have B24 := B2.ext e4
  simp [B14.hc]
  refine ef_store_box B24 rfl rfl (by simp) ?_
  intro h5 B5 m5
  simp
  refine resP_x rfl B5 rfl ?_
  have hsb : s'.nl = false ∧ h2.size ≤ s'.b := by
    rcases hs4 with ⟨q1, q2⟩ | ⟨q1, q2⟩
    · rw [q1, q2]; exact ⟨rfl, Nat.le_refl _⟩
    · exact ⟨q2, by have := e3.size; omega⟩
  have o5 := o4.mod m5 (fun _ hj => by omega)
  refine hr h5 _ (Mod.ext ((e1.trans e2).trans e4) m5 (fun j hj => by omega)) (fun h6 m6 => ?_)
  have o6 := o5.mod m6 (fun _ hj => by omega)
  unfold withinW
  rw [if_neg h0]
  refine ⟨s', rfl, Own.partsAt (ps := (p, a) :: w.1) ?_⟩
  simpa [partsL] using o6
end
end Go.Rm

/- The engine, part W: facts that hold for each later memory, in the form in which simp takes them. -/
set_option linter.unusedSimpArgs false
set_option linter.unusedVariables false
namespace Go.Rm
section
variable {Y : Sys} {h h' : Heap}
theorem Mod.rd {S : Nat → Prop} {b o n : Nat} {l : List Value} (e : Mod S h h') (hr : Rm.rd h b o n = some l) (hs : ¬ S b) : Rm.rd h' b o n = some l := by
  induction n generalizing o l with
  | zero => exact hr
  | succ n ih =>
    simp only [Rm.rd] at hr ⊢
    cases h1 : Rm.hc h b o with
    | none => simp [h1] at hr
    | some v =>
      rw [h1] at hr
      simp only [Option.bind_some] at hr
      cases h2 : Rm.rd h b (o + 1) n with
      | none => simp [h2] at hr
      | some l' =>
        rw [h2] at hr
        rw [e.hc h1 hs, Option.bind_some, ih h2]
        exact hr
theorem Blk.sk {b : Nat} {c : Array Value} (hb : Blk h b c) (h' : Heap) (o : Nat) (e : Ext h h') : Rm.hc h' b o = c[o]? := (hb.ext e).hc
theorem Blk.rk {b : Nat} {c : Array Value} (hb : Blk h b c) (h' : Heap) (n : Nat) (e : Ext h h') (hn : c.size = n) : Rm.rd h' b 0 n = some c.toList := rd_blk (hb.ext e) hn
theorem Row64.sk {s : Sl} {cs : List Int} (r : Row64 h s cs) (h' : Heap) (i : Nat) (e : Ext h h') (hi : i < cs.length) : Rm.hc h' s.b (s.o + i) = some (.int .i64 (nthI cs i)) := (r.ext e).val i hi
theorem Row3.s0 {s : Sl} {l : List Tri} (r : Row3 h s l) (h' : Heap) (i : Nat) (e : Ext h h') (hi : i < l.length) : Rm.hc h' s.b (s.o + i * 3) = some (.int .i64 (nthT l i).a) := (r.ext e).v0 i hi
theorem Row3.s1 {s : Sl} {l : List Tri} (r : Row3 h s l) (h' : Heap) (i : Nat) (e : Ext h h') (hi : i < l.length) : Rm.hc h' s.b (s.o + i * 3 + 1) = some (.int .i64 (nthT l i).b) := (r.ext e).v1 i hi
theorem Row3.s2 {s : Sl} {l : List Tri} (r : Row3 h s l) (h' : Heap) (i : Nat) (e : Ext h h') (hi : i < l.length) : Rm.hc h' s.b (s.o + i * 3 + 2) = some (.int .i64 (nthT l i).c) := (r.ext e).v2 i hi
theorem Row3.sr {s : Sl} {l : List Tri} (r : Row3 h s l) (h' : Heap) (i : Nat) (e : Ext h h') (hi : i < l.length) : Rm.rd h' s.b (s.o + i * 3) 3 = some [.int .i64 (nthT l i).a, .int .i64 (nthT l i).b, .int .i64 (nthT l i).c] := (r.ext e).rd hi
theorem Mod.refl' {S : Nat → Prop} {h : Heap} : Mod S h h := Mod.refl h
attribute [simp] Mod.refl'

/-- a number is stored into a row of one's own -/
theorem st64 {K : Value → Heap → Prop} {s : Sl} {cs : List Int} (o : Own h 1 s (ints64 cs)) {k : Nat} {y : Int} (hk : k < cs.length)
    (hr : ∀ h', Own h' 1 s (ints64 (cs.set k y)) → Mod (fun j => j = s.b) h h' → K undef h') : StoreP h s.b (s.o + k) (.int .i64 y) K := by
  obtain ⟨a, b, c, d, _⟩ := own_set64 o hk (y := y)
  rw [StoreP.open]
  exact ⟨b, c, hr _ a d⟩
/-- a row of noughts is laid -/
theorem ef_make64 {K : Value → Heap → Prop} {n : Nat} {m : Int} (hn : n ≤ 1000000) (hm : m = n) (hr : ∀ (b : Nat) (h' : Heap), h.size ≤ b → Own h' 1 (Sl.at b n n) (ints64 (List.replicate n 0)) → Ext h h' → b < h'.size → K (.slice (some ⟨b, 0, none⟩) n n) h') :
    Ef.wp h K (.mkslice 1 8 #[.int .i64 0]) [.int .i64 m, .int .i64 m] := by
  subst hm
  rw [ef_mkslice]
  refine ⟨by omega, by omega, by omega, by omega, fun t => ?_⟩
  simp only [Int.toNat_natCast, Nat.mul_one, zeros_one]
  exact hr h.size _ (Nat.le_refl _) (own_zero (by omega)) Mod.push (by simp)
@[simp] theorem sem_build_sss {z0 z1 z2 : Value} {x y w : Option Addr} {n c n' c' n'' c'' : Nat} : IOp.sem Y h (.build #[z0, z1, z2] [(0, 1), (1, 1), (2, 1)] [0, 1, 2]) [.slice x n c, .slice y n' c', .slice w n'' c''] = some (.agg #[.slice x n c, .slice y n' c', .slice w n'' c'']) := sem_build3 rfl rfl rfl
theorem fold_writeA : ∀ (vs : List Value) (c : Array Value) (off j : Nat), (vs.zipIdx j).foldl (fun cs (x : Value × Nat) => cs.setIfInBounds (off + x.2) x.1) c = writeA c (off + j) vs := by
  intro vs
  induction vs with
  | nil => intro c off j; rfl
  | cons v r ih =>
    intro c off j
    rw [List.zipIdx_cons, List.foldl_cons, ih, writeA]
    rfl
theorem fill_all {sz : Nat} : ∀ (xs : List Value) (k : Nat) (c : Array Value), (∀ x ∈ xs, x.cells.size = sz) → c.size = (k + xs.length) * sz →
    Instr.fill (fun i => some (i * sz, sz)) c ((List.range' k xs.length).zip xs) = some (c.toList.take (k * sz) ++ xs.flatMap (fun x => x.cells.toList)).toArray := by
  intro xs
  induction xs with
  | nil =>
    intro k c _ hc
    simp only [List.length_nil, List.range'_zero, List.zip_nil_right, Instr.fill, List.flatMap_nil, List.append_nil]
    congr 1
    apply Array.ext'
    rw [List.take_of_length_le (by simp at hc ⊢; omega)]
  | cons x r ih =>
    intro k c hx hc
    have hxs := hx x (by simp)
    have hlen : (x :: r).length = r.length + 1 := rfl
    have hm : (k + (r.length + 1)) * sz = k * sz + sz + r.length * sz := by rw [Nat.add_mul, Nat.add_mul]; omega
    rw [hlen] at hc ⊢
    rw [List.range'_succ, List.zip_cons_cons, Instr.fill]
    have hcond : (decide (x.cells.size ≠ sz) || decide (k * sz + x.cells.size > c.size)) = false := by
      rw [hc, hm, hxs]; simp
    simp only [hcond, Bool.false_eq_true, if_false]
    have hw : (x.cells.zipIdx.foldl (fun cs (c, j) => cs.setIfInBounds (k * sz + j) c) c) = writeA c (k * sz) x.cells.toList := by
      rw [← Array.foldl_toList, Array.toList_zipIdx]
      exact fold_writeA x.cells.toList c (k * sz) 0
    rw [hw]
    have hle : k * sz + x.cells.toList.length ≤ c.size := by rw [hc, hm]; simp; omega
    have hwt := writeA_toList (vs := x.cells.toList) (c := c) (o := k * sz) hle
    have hws : (writeA c (k * sz) x.cells.toList).size = c.size := by
      have := congrArg List.length hwt
      simp only [Array.length_toList, List.length_append, List.length_take, List.length_drop] at this
      simp only [Array.length_toList] at hle
      rw [this]
      omega
    rw [ih (k + 1) _ (fun y hy => hx y (List.mem_cons_of_mem _ hy)) (by rw [hws, hc]; congr 1; omega), hwt]
    congr 2
    rw [List.flatMap_cons, ← List.append_assoc]
    congr 1
    have h1 : (k + 1) * sz = (c.toList.take (k * sz) ++ x.cells.toList).length := by
      rw [Nat.add_mul, List.length_append, List.length_take, Array.length_toList, Array.length_toList, hxs]
      rw [Nat.min_eq_left (by rw [hc, hm]; omega)]
      omega
    rw [h1]
    exact List.take_left
theorem zeros_size {z : Array Value} {n : Nat} : (zeros z n).size = n := by simp [zeros]
/-- a slice is laid of parts -/
theorem ef_bslice_all {K : Value → Heap → Prop} {n sz : Nat} {zero : Array Value} {pl : List Nat} {xs : List Value} (hp : pl = List.range' 0 n) (hn : xs.length = n) (hx0 : (xs.all fun x => x.cells.size == sz) = true)
    (hk : ∀ (b : Nat) (h' : Heap), h.size ≤ b → Blk h' b (xs.flatMap fun x => x.cells.toList).toArray → Ext h h' → Own h' sz (Sl.at b n n) (xs.flatMap fun x => x.cells.toList) → K (.slice (some ⟨b, 0, none⟩) n n) h') (h63 : n ≤ 9223372036854775807) :
    Ef.wp h K (.bslice n sz zero pl) xs := by
  have hx : ∀ x ∈ xs, x.cells.size = sz := by simpa using hx0
  clear hx0
  subst hp
  subst hn
  have hf := fill_all (sz := sz) xs 0 (zeros zero (xs.length * sz)) hx (by rw [zeros_size]; simp)
  simp only [Ef.wp]
  rw [hf]
  simp only [Nat.zero_mul, List.take_zero, List.nil_append]
  intro t
  have hl : (xs.flatMap fun x => x.cells.toList).length = xs.length * sz := by
    clear hf hk h63
    induction xs with
    | nil => simp
    | cons x r ih =>
      rw [List.flatMap_cons, List.length_append, ih (fun y hy => hx y (List.mem_cons_of_mem _ hy)), List.length_cons, Nat.add_mul, Array.length_toList, hx x (by simp)]
      omega
  refine hk h.size _ (Nat.le_refl _) Blk.new Mod.push ⟨hl, .inr ⟨rfl, rfl, rfl, Nat.le_refl _, h63, _, Blk.new, ?_, ?_⟩⟩
  · simp only [List.size_toArray, hl, Sl.at_c]
  · simp only [Sl.at_n]
    rw [← hl]
    exact List.take_length
end
end Go.Rm

/- The document's nets: CheckNet. -/
set_option linter.unusedSimpArgs false
set_option linter.unusedVariables false
namespace Go.Rm

def RckI1 (v0 : Value) (B rb n : Nat) (ts : List Tab) (h0 : Heap) (e : List Value) (h' : Heap) : Prop :=
  ∃ (i : Nat) (v4 v5 v6 v7 v8 v9 v10 v11 v12 v13 v14 v15 v16 v17 v18 v19 v20 v21 v22 v23 v24 v25 v26 : Value),
    e = [v0, .pointer (some ⟨B, 0, none⟩), .pointer (some ⟨rb, 0, none⟩), .int .i64 i, v4, v5, v6, v7, v8, v9, v10, v11, v12, v13, v14, v15, v16, v17, v18, v19, v20, v21, v22, v23, v24, v25, v26] ∧ i ≤ n ∧ typesW 0 ts = typesW i (ts.drop i) ∧ Ext h0 h'
def RckI2 (v0 : Value) (B rb n nt : Nat) (vs : List Tri) (h0 : Heap) (e : List Value) (h' : Heap) : Prop :=
  ∃ (i : Nat) (v3 v4 v6 v7 v8 v9 v10 v11 v12 v13 v14 v15 v16 v17 v18 v19 v20 v21 v22 v23 v24 v25 v26 : Value),
    e = [v0, .pointer (some ⟨B, 0, none⟩), .pointer (some ⟨rb, 0, none⟩), v3, v4, .int .i64 i, v6, v7, v8, v9, v10, v11, v12, v13, v14, v15, v16, v17, v18, v19, v20, v21, v22, v23, v24, v25, v26] ∧ i ≤ n ∧ vertsW nt 0 vs = vertsW nt i (vs.drop i) ∧ (∀ j, j < i → vtxB nt (nthT vs j).c = true) ∧ Ext h0 h'
def RckI3 (v0 : Value) (B rb n nv : Nat) (sI sO : Sl) (as : List Tri) (h0 : Heap) (e : List Value) (h' : Heap) : Prop :=
  ∃ (i : Nat) (v3 v4 v5 v6 v10 v11 v12 v13 v14 v15 v16 v17 v18 v19 v20 v21 v22 v23 v24 v25 v26 : Value),
    e = [v0, .pointer (some ⟨B, 0, none⟩), .pointer (some ⟨rb, 0, none⟩), v3, v4, v5, v6, sI.v, sO.v, .int .i64 i, v10, v11, v12, v13, v14, v15, v16, v17, v18, v19, v20, v21, v22, v23, v24, v25, v26] ∧ i ≤ n ∧ arcsW nv 0 as = arcsW nv i (as.drop i) ∧ (∀ j, j < i → vtxB nv (nthT as j).a = true ∧ vtxB nv (nthT as j).b = true) ∧ Own h' 1 sI (ints64 (insL nv (as.take i))) ∧ Own h' 1 sO (ints64 (outsL nv (as.take i))) ∧ Ext h0 h'
def RckI4 (v0 : Value) (B rb n : Nat) (sI sO : Sl) (N : NetD) (h0 : Heap) (e : List Value) (h' : Heap) : Prop :=
  ∃ (i : Nat) (v3 v4 v5 v6 v9 v10 v12 v13 v14 v15 v16 v17 v18 v19 v20 v21 v22 v23 v24 v25 v26 : Value),
    e = [v0, .pointer (some ⟨B, 0, none⟩), .pointer (some ⟨rb, 0, none⟩), v3, v4, v5, v6, sI.v, sO.v, v9, v10, .int .i64 i, v12, v13, v14, v15, v16, v17, v18, v19, v20, v21, v22, v23, v24, v25, v26] ∧ i ≤ n ∧ meetW N 0 N.vs = meetW N i (N.vs.drop i) ∧ Ext h0 h'

structure RefNet (Y : Sys) : Prop where
  CheckNet : Y.Has F.rref6_CheckNet S_rref6_CheckNet
  Within : Y.Has F.rref6_Within S_rref6_Within
  Coord : Y.Has F.rref6_Coord S_rref6_Coord

section
variable {Y : Sys} {h : Heap}

theorem rchecknet_spec (RN : RefNet Y) (T : RefCk Y) {sv sa st : Sl} {N : NetD} (r : NetH h sv sa st N)
    {R : Value → Heap → Prop} (hr : ∀ h' v, Ext h h' → FWr h.size h' (netW N) v → R v h') : CallP Y F.rref6_CheckNet [netV sv sa st] h R := by
  have lv := r.rv.len
  have la := r.ra.len
  have lt := r.rt.len
  refine .of_has RN.CheckNet rfl ?_
  simp [S_rref6_CheckNet, FnS.wp, netV]
  refine ef_new_box ?_
  intro B h1 g1 B1 e1
  simp
  refine ef_new_box ?_
  intro rb h2 g2 B2 e2
  have B12 := B1.ext e2
  have e12 := e1.trans e2
  have z1 := e1.size
  have z2 := e2.size
  have lB := B2.lt
  -- a Wrong is put into the box
  have fin2 : ∀ {h' : Heap} {v : Value} {K : Value → Heap → Prop}, Ext h h' → Blk h' rb #[.slice none 0 0, .int .i64 0] → FWr h2.size h' (netW N) v → (∀ h4 s', v = .agg s' → Blk h4 rb s' → s'.size = 2 → R v h4 → K undef h4) →
      Ef.wp h' K (.store 2) [.pointer (some ⟨rb, 0, none⟩), v] := by
    intro h' v K e3 B3 hw3 hk
    obtain ⟨s', rfl⟩ := hw3.here.shape
    refine ef_store_box B3 rfl rfl (by simp) ?_
    intro h4 B4 m4
    exact hk h4 _ rfl B4 rfl (hr h4 _ (Mod.ext e3 m4 (fun j hj => by omega)) ((hw3.step m4 (fun j hj => by omega)).mono (by omega)))
  have fin : ∀ {h' : Heap} {p : ByteArray} {k e : Int} {K : Value → Heap → Prop}, Ext h2 h' → netW N = atW p k e → (∀ h4 v, Ext h h4 → Blk h4 rb #[.slice none 0 0, .int .i64 0] → FWr h2.size h4 (netW N) v → K v h4) →
      CallP Y F.rref6_At [.string p, .int .i64 k, .int .i64 e] h' K := by
    intro h' p k e K x hw hK
    refine rat_spec T.At ?_
    intro h4 v e4 hv
    refine hK h4 v ((e12.trans x).trans e4) (B2.ext (x.trans e4)) ?_
    rw [hw]
    exact hv.mono x.size
  simp [B12.hc]
  by_cases c1 : 4096 < sv.n
  · have c1' : (4096 : Int) < sv.n := by omega
    have hw : netW N = atW wNet 0 4 := by
      unfold netW; rw [orW_l] <;> simp [sizeW, lv, c1, atW]
    simp [c1']
    refine fin (Mod.refl h2) hw ?_
    intro h3 v x3 B3 hv
    simp
    refine fin2 x3 B3 hv ?_
    rintro h4 s' rfl B4 hs hR
    simp
    exact resP_x rfl B4 hs hR
  have c1' : ¬ (4096 : Int) < sv.n := by omega
  by_cases c2 : 16384 < sa.n
  · have c2' : (16384 : Int) < sa.n := by omega
    have hw : netW N = atW wNet 1 4 := by
      unfold netW; rw [orW_l] <;> simp [sizeW, lv, la, c1, c2, atW]
    simp [c1', c2', B12.hc]
    refine fin (Mod.refl h2) hw ?_
    intro h3 v x3 B3 hv
    simp
    refine fin2 x3 B3 hv ?_
    rintro h4 s' rfl B4 hs hR
    simp
    exact resP_x rfl B4 hs hR
  have c2' : ¬ (16384 : Int) < sa.n := by omega
  by_cases c3 : 256 < st.n
  · have c3' : (256 : Int) < st.n := by omega
    have hw : netW N = atW wNet 2 4 := by
      unfold netW; rw [orW_l] <;> simp [sizeW, lv, la, lt, c1, c2, c3, atW]
    simp [c1', c2', c3', B12.hc]
    refine fin (Mod.refl h2) hw ?_
    intro h3 v x3 B3 hv
    simp
    refine fin2 x3 B3 hv ?_
    rintro h4 s' rfl B4 hs hR
    simp
    exact resP_x rfl B4 hs hR
  have c3' : ¬ (256 : Int) < st.n := by omega
  have hw0 : netW N = orW (typesW 0 N.ts) (orW (vertsW N.ts.length 0 N.vs) (orW (arcsW N.vs.length 0 N.as) (meetW N 0 N.vs))) := by
    unfold netW; rw [orW_r]; simp [sizeW, lv, la, lt, c1, c2, c3, wOK]
  simp [c1', c2', c3', B12.hc]
  refine wp_loop' (RckI1 (netV sv sa st) B rb st.n N.ts h2) (fun e _ => st.n - argI e 3) ⟨0, _, _, _, _, _, _, _, _, _, _, _, _, _, _, _, _, _, _, _, _, _, _, _, rfl, by omega, by simp, Mod.refl h2⟩ ?_
  rintro e h3 ⟨i, v4, v5, v6, v7, v8, v9, v10, v11, v12, v13, v14, v15, v16, v17, v18, v19, v20, v21, v22, v23, v24, v25, v26, rfl, hi, hm, x3⟩
  have y3 := e12.trans x3
  have B13 := B12.ext x3
  by_cases c : i < st.n
  · have c' : (i : Int) < st.n := by omega
    have w1 : IntKind.i64.wrap ((i : Int) + 1) = (i : Int) + 1 := i64_wrap (by omega)
    rw [typesW_drop (by omega)] at hm
    obtain ⟨q, rdt, _, rq⟩ := (r.ext y3).rt.rd (i := i) (by omega)
    simp [c', B13.hc, sem_idxa (r.ext y3).rt.ok, rdt]
    refine rcheck_spec T rq ?_
    intro h4 v4 e4 hv4
    rw [show tabW (nthB N.ts i).i (nthB N.ts i).o (nthB N.ts i).cs = tabWr (nthB N.ts i) from rfl] at hv4
    have y4 := y3.trans e4
    obtain ⟨ps, rfl⟩ := hv4.here.shape
    simp
    refine new_store (vs := #[ps.v, .int .i64 (tabWr (nthB N.ts i)).2]) rfl rfl (by simp) ?_
    intro b5 h5' g5 B5' e5' st'
    simp
    refine st' _ ?_
    intro h5 B5 e5
    clear st' B5' e5'
    have y5 := y4.trans e5
    by_cases h0 : (tabWr (nthB N.ts i)).2 = 0
    · rw [if_neg (by simp [h0])] at hm
      simp [B5.hc, h0, w1]
      exact ⟨⟨i + 1, _, _, _, _, _, _, _, _, _, _, _, _, _, _, _, _, _, _, _, _, _, _, _, rfl, by omega, hm, (x3.trans e4).trans e5⟩, by simp [argI]; omega⟩
    · rw [if_pos h0] at hm
      have hw2 : (withinW wType i (tabWr (nthB N.ts i))).2 ≠ 0 := by unfold withinW; rw [if_neg h0]; exact h0
      have hw : netW N = withinW wType i (tabWr (nthB N.ts i)) := by rw [hw0, hm, orW_l hw2]
      simp [B5.hc, h0, rd_blk B5]
      refine rwithin_spec RN.Within (hv4.here.ext e5) h0 (by have := (tabWr_len (t := nthB N.ts i)).1; omega) ?_
      intro h6 v6 e6 hv6
      rw [← hw] at hv6
      obtain ⟨ps6, rfl⟩ := hv6.here.shape
      simp
      refine fin2 (y5.trans e6) (B2.ext (((x3.trans e4).trans e5).trans e6)) (hv6.mono (by have := ((x3.trans e4).trans e5).size; omega)) ?_
      rintro h7 s' hs' B7 hs hR
      simp
      exact resP_x rfl B7 hs (by rw [← hs']; exact hR)
  have c' : ¬ (i : Int) < st.n := by omega
  rw [List.drop_eq_nil_of_le (by omega), typesW] at hm
  have hw1 : netW N = orW (vertsW N.ts.length 0 N.vs) (orW (arcsW N.vs.length 0 N.as) (meetW N 0 N.vs)) := by rw [hw0, hm, orW_r rfl]
  simp [c', B13.hc]
  refine wp_loop' (RckI2 (netV sv sa st) B rb sv.n N.ts.length N.vs h3) (fun e _ => sv.n - argI e 5) ⟨0, _, _, _, _, _, _, _, _, _, _, _, _, _, _, _, _, _, _, _, _, _, _, _, rfl, by omega, by simp, fun j hj => by omega, Mod.refl h3⟩ ?_
  clear c c' hi hm v4 v5 v6 v7 v8 v9 v10 v11 v12 v13 v14 v15 v16 v17 v18 v19 v20 v21 v22 v23 v24 v25 v26
  rintro e h4 ⟨i, v3, v4, v6, v7, v8, v9, v10, v11, v12, v13, v14, v15, v16, v17, v18, v19, v20, v21, v22, v23, v24, v25, v26, rfl, hi, hm, hall, x4⟩
  have y4 := y3.trans x4
  have B14 := B13.ext x4
  have x24 := x3.trans x4
  by_cases c : i < sv.n
  · have c' : (i : Int) < sv.n := by omega
    have w1 : IntKind.i64.wrap ((i : Int) + 1) = (i : Int) + 1 := i64_wrap (by omega)
    rw [vertsW_drop (by omega)] at hm
    have rd4 := (r.ext y4).rv.rd (i := i) (by omega)
    simp [c', B14.hc, sem_idxa (r.ext y4).rv.ok, rd4]
    refine new_store (vs := #[.int .i64 (nthT N.vs i).a, .int .i64 (nthT N.vs i).b, .int .i64 (nthT N.vs i).c]) rfl rfl (by simp) ?_
    intro b5 h5' g5 B5' e5' st'
    simp
    refine st' _ ?_
    intro h5 B5 e5
    clear st' B5' e5'
    have x25 := x24.trans e5
    have B15 := B14.ext e5
    have done1 : (vertW N.ts.length i (nthT N.vs i)).2 ≠ 0 → netW N = vertW N.ts.length i (nthT N.vs i) := by
      intro hne
      rw [if_pos hne] at hm
      rw [hw1, hm, orW_l hne]
    simp [B5.hc]
    refine coord_spec RN.Coord ?_
    by_cases f1 : farB (nthT N.vs i).a = true
    · have hv : vertW N.ts.length i (nthT N.vs i) = atW wVert i 1 := by simp [vertW, f1]
      simp [f1]
      refine fin x25 (by rw [done1 (by rw [hv]; simp [atW]), hv]) ?_
      intro h6 v x6 B6 hv6
      simp
      refine fin2 x6 B6 hv6 ?_
      rintro h7 s' rfl B7 hs hR
      simp
      exact resP_x rfl B7 hs hR
    simp [f1, B5.hc]
    refine coord_spec RN.Coord ?_
    by_cases f2 : farB (nthT N.vs i).b = true
    · have hv : vertW N.ts.length i (nthT N.vs i) = atW wVert i 1 := by simp [vertW, f2]
      simp [f2]
      refine fin x25 (by rw [done1 (by rw [hv]; simp [atW]), hv]) ?_
      intro h6 v x6 B6 hv6
      simp
      refine fin2 x6 B6 hv6 ?_
      rintro h7 s' rfl B7 hs hR
      simp
      exact resP_x rfl B7 hs hR
    have hv0 : vertW N.ts.length i (nthT N.vs i) = if vtxB N.ts.length (nthT N.vs i).c then wOK else atW wVert i 5 := by simp [vertW, f1, f2]
    by_cases f3 : (nthT N.vs i).c < 0
    · have hv : vertW N.ts.length i (nthT N.vs i) = atW wVert i 5 := by
        rw [hv0, if_neg]; simp [vtxB]; omega
      simp [f2, B5.hc, f3]
      refine fin x25 (by rw [done1 (by rw [hv]; simp [atW]), hv]) ?_
      intro h6 v x6 B6 hv6
      simp
      refine fin2 x6 B6 hv6 ?_
      rintro h7 s' rfl B7 hs hR
      simp
      exact resP_x rfl B7 hs hR
    by_cases f4 : (st.n : Int) ≤ (nthT N.vs i).c
    · have hv : vertW N.ts.length i (nthT N.vs i) = atW wVert i 5 := by
        rw [hv0, if_neg]; simp [vtxB]; omega
      simp [f2, B5.hc, B15.hc, f3, f4]
      refine fin x25 (by rw [done1 (by rw [hv]; simp [atW]), hv]) ?_
      intro h6 v x6 B6 hv6
      simp
      refine fin2 x6 B6 hv6 ?_
      rintro h7 s' rfl B7 hs hR
      simp
      exact resP_x rfl B7 hs hR
    have hok : vtxB N.ts.length (nthT N.vs i).c = true := by simp [vtxB]; omega
    have hv : vertW N.ts.length i (nthT N.vs i) = wOK := by rw [hv0, if_pos hok]
    rw [hv, if_neg (by simp [wOK])] at hm
    simp [f2, B5.hc, B15.hc, f3, f4, w1]
    refine ⟨⟨i + 1, _, _, _, _, _, _, _, _, _, _, _, _, _, _, _, _, _, _, _, _, _, _, _, rfl, by omega, hm, fun j hj => ?_, x4.trans e5⟩, by simp [argI]; omega⟩
    rcases Nat.lt_or_ge j i with q | q
    · exact hall j q
    · obtain rfl : j = i := by omega
      exact hok
  have c' : ¬ (i : Int) < sv.n := by omega
  obtain rfl : i = sv.n := by omega
  rw [List.drop_eq_nil_of_le (by omega), vertsW] at hm
  have hw2 : netW N = orW (arcsW N.vs.length 0 N.as) (meetW N 0 N.vs) := by rw [hw1, hm, orW_r rfl]
  have hV : ∀ i, i < N.vs.length → vtxB N.ts.length (nthT N.vs i).c = true := fun i hi => hall i (by omega)
  have q1 : (sv.n : Int) ≤ 9223372036854775807 := by omega
  have q2 : 8 * (sv.n : Int) ≤ 281474976710656 := by omega
  simp [c', B14.hc, ef_mkslice, zeros_one, q1, q2]
  intro t
  have o2 : Own (h4.push (.cells (Array.replicate sv.n (.int .i64 0)) t)) 1 (Sl.at h4.size sv.n sv.n) (ints64 (List.replicate sv.n 0)) := own_zero (by omega)
  have e5 : Ext h4 (h4.push (.cells (Array.replicate sv.n (.int .i64 0)) t)) := Mod.push
  have k5 : (h4.push (.cells (Array.replicate sv.n (.int .i64 0)) t)).size = h4.size + 1 := by simp
  generalize h4.push (.cells (Array.replicate sv.n (.int .i64 0)) t) = h5 at *
  have B15 := B14.ext e5
  simp [B15.hc, ef_mkslice, zeros_one, q1, q2]
  intro t'
  have o3 : Own (h5.push (.cells (Array.replicate sv.n (.int .i64 0)) t')) 1 (Sl.at h5.size sv.n sv.n) (ints64 (List.replicate sv.n 0)) := own_zero (by omega)
  have e6 : Ext h5 (h5.push (.cells (Array.replicate sv.n (.int .i64 0)) t')) := Mod.push
  have o23 := o2.mod e6 (fun _ h => h)
  have k6 : (h5.push (.cells (Array.replicate sv.n (.int .i64 0)) t')).size = h5.size + 1 := by simp
  generalize h5.push (.cells (Array.replicate sv.n (.int .i64 0)) t') = h6 at *
  have B16 := B15.ext e6
  obtain ⟨sI, hsI⟩ : ∃ sI, sI = Sl.at h4.size sv.n sv.n := ⟨_, rfl⟩
  obtain ⟨sO, hsO⟩ : ∃ sO, sO = Sl.at h5.size sv.n sv.n := ⟨_, rfl⟩
  have bI : sI.b = h4.size := by rw [hsI]; rfl
  have bO : sO.b = h5.size := by rw [hsO]; rfl
  have nI : sI.n = sv.n := by rw [hsI]; rfl
  have nO : sO.n = sv.n := by rw [hsO]; rfl
  have vI : (Value.slice (some ⟨h4.size, 0, none⟩) sv.n sv.n) = sI.v := by rw [hsI]; rfl
  have vO : (Value.slice (some ⟨h5.size, 0, none⟩) sv.n sv.n) = sO.v := by rw [hsO]; rfl
  rw [← hsI] at o23
  rw [← hsO] at o3
  simp [vI, vO]
  refine wp_loop' (RckI3 (netV sv sa st) B rb sa.n sv.n sI sO N.as h4) (fun e _ => sa.n - argI e 9) ⟨0, _, _, _, _, _, _, _, _, _, _, _, _, _, _, _, _, _, _, _, _, _, rfl, by omega, by simp, fun j hj => by omega, by simpa [insL_nil] using o23, by simpa [outsL_nil] using o3, e5.trans e6⟩ ?_
  have x2A := x24
  rintro e h7 ⟨i, v3, v4, v5, v6, v10, v11, v12, v13, v14, v15, v16, v17, v18, v19, v20, v21, v22, v23, v24, v25, v26, rfl, hi, hm, hall', oI, oO, x7⟩
  rw [← lv] at hm hall'
  have y7 := y4.trans x7
  have B17 := B14.ext x7
  have x27 := x2A.trans x7
  by_cases c : i < sa.n
  · have c' : (i : Int) < sa.n := by omega
    have w1 : IntKind.i64.wrap ((i : Int) + 1) = (i : Int) + 1 := i64_wrap (by omega)
    rw [arcsW_drop (by omega)] at hm
    have rd7 := (r.ext y7).ra.rd (i := i) (by omega)
    simp [c', B17.hc, sem_idxa (r.ext y7).ra.ok, rd7]
    refine new_store (vs := #[.int .i64 (nthT N.as i).a, .int .i64 (nthT N.as i).b, .int .i64 (nthT N.as i).c]) rfl rfl (by simp) ?_
    intro b8 h8' g8 B8' e8' st'
    simp
    refine st' _ ?_
    intro h8 B8 e8
    clear st' B8' e8'
    have x26 := x27.trans e8
    have B18 := B17.ext e8
    have done1 : (arcW N.vs.length i (nthT N.as i)).2 ≠ 0 → netW N = arcW N.vs.length i (nthT N.as i) := by
      intro hne
      rw [if_pos hne] at hm
      rw [hw2, hm, orW_l hne]
    by_cases f1 : (nthT N.as i).a < 0
    · have hv : arcW N.vs.length i (nthT N.as i) = atW wArc i 5 := by
        simp [arcW, vtxB]; intros; omega
      simp [B8.hc, f1]
      refine fin x26 (by rw [done1 (by rw [hv]; simp [atW]), hv]) ?_
      intro h9 v x9 B9 hv9
      simp
      refine fin2 x9 B9 hv9 ?_
      rintro h10 s' rfl B10 hs hR
      simp
      exact resP_x rfl B10 hs hR
    by_cases f2 : (sv.n : Int) ≤ (nthT N.as i).a
    · have hv : arcW N.vs.length i (nthT N.as i) = atW wArc i 5 := by
        simp [arcW, vtxB]; intros; omega
      simp [B8.hc, B18.hc, f1, f2]
      refine fin x26 (by rw [done1 (by rw [hv]; simp [atW]), hv]) ?_
      intro h9 v x9 B9 hv9
      simp
      refine fin2 x9 B9 hv9 ?_
      rintro h10 s' rfl B10 hs hR
      simp
      exact resP_x rfl B10 hs hR
    by_cases f3 : (nthT N.as i).b < 0
    · have hv : arcW N.vs.length i (nthT N.as i) = atW wArc i 5 := by
        simp [arcW, vtxB]; intros; omega
      simp [B8.hc, B18.hc, f1, f2, f3]
      refine fin x26 (by rw [done1 (by rw [hv]; simp [atW]), hv]) ?_
      intro h9 v x9 B9 hv9
      simp
      refine fin2 x9 B9 hv9 ?_
      rintro h10 s' rfl B10 hs hR
      simp
      exact resP_x rfl B10 hs hR
    by_cases f4 : (sv.n : Int) ≤ (nthT N.as i).b
    · have hv : arcW N.vs.length i (nthT N.as i) = atW wArc i 5 := by
        simp [arcW, vtxB]; intros; omega
      simp [B8.hc, B18.hc, f1, f2, f3, f4]
      refine fin x26 (by rw [done1 (by rw [hv]; simp [atW]), hv]) ?_
      intro h9 v x9 B9 hv9
      simp
      refine fin2 x9 B9 hv9 ?_
      rintro h10 s' rfl B10 hs hR
      simp
      exact resP_x rfl B10 hs hR
    have g1 : vtxB N.vs.length (nthT N.as i).a = true := by simp [vtxB]; omega
    have g2 : vtxB N.vs.length (nthT N.as i).b = true := by simp [vtxB]; omega
    simp [B8.hc, B18.hc, f1, f2, f3, f4]
    obtain ⟨f, hf'⟩ : ∃ f : Nat, (nthT N.as i).a = f := ⟨(nthT N.as i).a.toNat, by omega⟩
    obtain ⟨g, hg'⟩ : ∃ g : Nat, (nthT N.as i).b = g := ⟨(nthT N.as i).b.toNat, by omega⟩
    refine rweight_spec T.Weight ?_
    by_cases f5 : weightB (nthT N.as i).c = true
    rotate_left
    · have hv : arcW N.vs.length i (nthT N.as i) = atW wArc i 8 := by simp [arcW, g1, g2, f5]
      simp [f5]
      refine fin x26 (by rw [done1 (by rw [hv]; simp [atW]), hv]) ?_
      intro h9 v x9 B9 hv9
      simp
      refine fin2 x9 B9 hv9 ?_
      rintro h10 s' rfl B10 hs hR
      simp
      exact resP_x rfl B10 hs hR
    have hv : arcW N.vs.length i (nthT N.as i) = wOK := by simp [arcW, g1, g2, f5]
    rw [hv, if_neg (by simp [wOK])] at hm
    have st1 := insL_step (n := sv.n) (t := g) (by omega : i < N.as.length) hg' (by omega)
    have st2 := outsL_step (n := sv.n) (t := f) (by omega : i < N.as.length) hf' (by omega)
    have hgI : (g : Int) < sI.n := by omega
    have hfO : (f : Int) < sO.n := by omega
    have oI8 := oI.mod e8 (fun _ h => h)
    have oO8 := oO.mod e8 (fun _ h => h)
    rw [hf', hg'] at B8
    have cO := oO8.row64.at (i := f) (by omega)
    rw [outsL_at (by omega)] at cO
    have leI := insN_le (as := N.as.take i) (v := g)
    have leO := outsN_le (as := N.as.take i) (v := f)
    have hti : (N.as.take i).length ≤ 16384 := by rw [List.length_take]; omega
    have wI : IntKind.i64.wrap ((insN (N.as.take i) g : Int) + 1) = (insN (N.as.take i) g : Int) + 1 := i64_wrap (by omega)
    have wO : IntKind.i64.wrap ((outsN (N.as.take i) f : Int) + 1) = (outsN (N.as.take i) f : Int) + 1 := i64_wrap (by omega)
    obtain ⟨oO9, isO, fzO, m9, _⟩ := own_set64 oO8 (k := f) (y := (outsN (N.as.take i) f : Int) + 1) (by simp; omega)
    rw [st2] at oO9
    have ltI := oI.lt (by rw [hsI]; rfl)
    have ltO := oO.lt (by rw [hsO]; rfl)
    simp [f5, B8.hc, sem_idxa oO8.ok, hfO, cO, wO, StoreP.open, isO, fzO]
    have B9 := m9.blk B8 (by omega)
    have oI9 := oI8.mod m9 (fun _ hj => by omega)
    have x9 : Ext h4 (hset h8 sO.b (sO.o + f) (.int .i64 ((outsN (N.as.take i) f : Int) + 1))) := Mod.ext (x7.trans e8) m9 (fun j hj => by omega)
    generalize hset h8 sO.b (sO.o + f) (.int .i64 ((outsN (N.as.take i) f : Int) + 1)) = h9 at *
    have cI := oI9.row64.at (i := g) (by omega)
    rw [insL_at (by omega)] at cI
    obtain ⟨oI10, isI, fzI, m10, _⟩ := own_set64 oI9 (k := g) (y := (insN (N.as.take i) g : Int) + 1) (by simp; omega)
    rw [st1] at oI10
    simp [B9.hc, sem_idxa oI9.ok, hgI, cI, wI, StoreP.open, isI, fzI, w1]
    have oO10 := oO9.mod m10 (fun _ hj => by omega)
    have x10 : Ext h4 (hset h9 sI.b (sI.o + g) (.int .i64 ((insN (N.as.take i) g : Int) + 1))) := Mod.ext x9 m10 (fun j hj => by omega)
    refine ⟨⟨i + 1, _, _, _, _, _, _, _, _, _, _, _, _, _, _, _, _, _, _, _, _, _, rfl, by omega, by rw [lv] at hm; exact hm, fun j hj => ?_, oI10, oO10, x10⟩, by simp [argI]; omega⟩
    rcases Nat.lt_or_ge j i with q | q
    · rw [← lv]; exact hall' j q
    · obtain rfl : j = i := by omega
      rw [← lv]; exact ⟨g1, g2⟩
  have c' : ¬ (i : Int) < sa.n := by omega
  obtain rfl : i = sa.n := by omega
  rw [List.drop_eq_nil_of_le (by omega), arcsW] at hm
  rw [List.take_of_length_le (by omega)] at oI oO
  have hw3 : netW N = meetW N 0 N.vs := by rw [hw2, hm, orW_r rfl]
  simp [c', B17.hc]
  refine wp_loop' (RckI4 (netV sv sa st) B rb sv.n sI sO N h7) (fun e _ => sv.n - argI e 11) ⟨0, _, _, _, _, _, _, _, _, _, _, _, _, _, _, _, _, _, _, _, _, _, rfl, by omega, by simp, Mod.refl h7⟩ ?_
  clear c c' hi hm v3 v4 v5 v6 v10 v11 v12 v13 v14 v15 v16 v17 v18 v19 v20 v21 v22 v23 v24 v25 v26
  rintro e h8 ⟨i, v3, v4, v5, v6, v9, v10, v12, v13, v14, v15, v16, v17, v18, v19, v20, v21, v22, v23, v24, v25, v26, rfl, hi, hm, x8⟩
  have B18 := B17.ext x8
  have r8 := (r.ext y7).ext x8
  have oI8 := oI.mod x8 (fun _ h => h)
  have oO8 := oO.mod x8 (fun _ h => h)
  have x28 := x27.trans x8
  by_cases c : i < sv.n
  · have c' : (i : Int) < sv.n := by omega
    have w1 : IntKind.i64.wrap ((i : Int) + 1) = (i : Int) + 1 := i64_wrap (by omega)
    rw [meetW_drop (by omega)] at hm
    have ht := hV i (by omega)
    simp only [vtxB, decide_eq_true_eq] at ht
    obtain ⟨f, hf'⟩ : ∃ f : Nat, (nthT N.vs i).c = f := ⟨(nthT N.vs i).c.toNat, by omega⟩
    have cc8 := r8.rv.v2 i (by omega)
    rw [hf'] at cc8 ht
    obtain ⟨q, rdt, _, _⟩ := r8.rt.rd (i := f) (by omega)
    have hft : (f : Int) < st.n := by omega
    simp [c', B18.hc, sem_idxa r8.rv.ok, cc8, sem_idxa r8.rt.ok, hft, rdt]
    refine new_store (vs := #[.int .i64 (nthB N.ts f).i, .int .i64 (nthB N.ts f).o, q.v]) rfl rfl (by simp) ?_
    intro b9 h9' g9 B9' e9' st'
    have r9' := r8.ext e9'
    have cc9 := r9'.rv.v2 i (by omega)
    rw [hf'] at cc9
    obtain ⟨q', rdt', hq', _⟩ := r9'.rt.rd (i := f) (by omega)
    have B19' := B18.ext e9'
    have rdt'' := e9'.rd rdt
    simp [B19'.hc, c', sem_idxa r9'.rv.ok, cc9, sem_idxa r9'.rt.ok, hft, rdt'']
    refine st' _ ?_
    intro h9 B9 e9
    clear st' B9' e9' r9' cc9 rdt' hq' rdt'' B19'
    have x29 := x28.trans e9
    have oI9 := oI8.mod e9 (fun _ h => h)
    have oO9 := oO8.mod e9 (fun _ h => h)
    have cI := oI9.row64.at (i := i) (by omega)
    rw [insL_at (by omega)] at cI
    have cO := oO9.row64.at (i := i) (by omega)
    rw [outsL_at (by omega)] at cO
    have hiI : (i : Int) < sI.n := by omega
    have hiO : (i : Int) < sO.n := by omega
    have hmt : meet1 N i (nthT N.vs i) = if 16 < insN N.as i ∨ 16 < outsN N.as i then atW wVert i 4
        else if (nthB N.ts f).i ≠ insN N.as i ∨ (nthB N.ts f).o ≠ outsN N.as i then atW wVert i 9 else wOK := by
      simp [meet1, hf']
    generalize insN N.as i = a at *
    generalize outsN N.as i = b at *
    have fin4 : (16 < a ∨ 16 < b) → netW N = atW wVert i 4 := by
      intro hab
      rw [hw3, hm, hmt, if_pos hab, if_pos (by simp [atW])]
    have fin9 : ¬ (16 < a ∨ 16 < b) → ((nthB N.ts f).i ≠ a ∨ (nthB N.ts f).o ≠ b) → netW N = atW wVert i 9 := by
      intro hab hab'
      rw [hw3, hm, hmt, if_neg hab, if_pos hab', if_pos (by simp [atW])]
    by_cases ca : 16 < a
    · have ca' : (16 : Int) < a := by omega
      simp [sem_idxa oI9.ok, hiI, cI, ca']
      refine fin x29 (fin4 (.inl ca)) ?_
      intro h10 v x10 B10 hv10
      simp
      refine fin2 x10 B10 hv10 ?_
      rintro h11 s' rfl B11 hs hR
      simp
      exact resP_x rfl B11 hs hR
    have ca' : ¬ (16 : Int) < a := by omega
    by_cases cb : 16 < b
    · have cb' : (16 : Int) < b := by omega
      simp [sem_idxa oI9.ok, sem_idxa oO9.ok, hiI, hiO, cI, cO, ca', cb']
      refine fin x29 (fin4 (.inr cb)) ?_
      intro h10 v x10 B10 hv10
      simp
      refine fin2 x10 B10 hv10 ?_
      rintro h11 s' rfl B11 hs hR
      simp
      exact resP_x rfl B11 hs hR
    have cb' : ¬ (16 : Int) < b := by omega
    have cab : ¬ (16 < a ∨ 16 < b) := by omega
    by_cases cc : (nthB N.ts f).i = a
    rotate_left
    · have cc' : ((a : Int) = (nthB N.ts f).i) = False := by simp; omega
      simp [B9.hc, sem_idxa oI9.ok, sem_idxa oO9.ok, hiI, hiO, cI, cO, ca', cb', cc']
      refine fin x29 (fin9 cab (.inl cc)) ?_
      intro h10 v x10 B10 hv10
      simp
      refine fin2 x10 B10 hv10 ?_
      rintro h11 s' rfl B11 hs hR
      simp
      exact resP_x rfl B11 hs hR
    have cc' : ((a : Int) = (nthB N.ts f).i) = True := by simp [cc]
    by_cases cd : (nthB N.ts f).o = b
    rotate_left
    · have cd' : ((b : Int) = (nthB N.ts f).o) = False := by simp; omega
      simp [B9.hc, sem_idxa oI9.ok, sem_idxa oO9.ok, hiI, hiO, cI, cO, ca', cb', cc', cd']
      refine fin x29 (fin9 cab (.inr cd)) ?_
      intro h10 v x10 B10 hv10
      simp
      refine fin2 x10 B10 hv10 ?_
      rintro h11 s' rfl B11 hs hR
      simp
      exact resP_x rfl B11 hs hR
    have cd' : ((b : Int) = (nthB N.ts f).o) = True := by simp [cd]
    simp [B9.hc, sem_idxa oI9.ok, sem_idxa oO9.ok, hiI, hiO, cI, cO, ca', cb', cc', cd', w1]
    refine ⟨⟨i + 1, _, _, _, _, _, _, _, _, _, _, _, _, _, _, _, _, _, _, _, _, _, rfl, by omega, ?_, x8.trans e9⟩, by simp [argI]; omega⟩
    have hmt' : meet1 N i (nthT N.vs i) = wOK := by
      rw [hmt, if_neg cab]
      simp [cc, cd]
    rw [hm, hmt', if_neg (by simp [wOK])]
  have c' : ¬ (i : Int) < sv.n := by omega
  rw [List.drop_eq_nil_of_le (by omega), meetW] at hm
  simp [c', B18.hc]
  refine fin2 (e12.trans x28) (B2.ext x28) (by rw [hw3, hm]; exact FWr.ok) ?_
  rintro h9 s' hs' B9 hs hR
  simp
  exact resP_x rfl B9 hs (by rw [← hs']; exact hR)
end
end Go.Rm

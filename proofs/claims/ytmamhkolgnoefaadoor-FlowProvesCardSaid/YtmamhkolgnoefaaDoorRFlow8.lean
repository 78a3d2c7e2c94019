import Derived.Test.YtmamhkolgnoefaaDoorRFlow1
import Derived.Test.YtmamhkolgnoefaaDoorSNums

/- Flows: of each vertex the edges at it. -/
set_option linter.unusedSimpArgs false
set_option linter.unusedVariables false
namespace Go.Rm
/-- an edge seen from one of its ends -/
structure Lk where
  e : Nat
  f : Nat
  t : Nat
  w : Int
def Lk.cells (l : Lk) : List Value := [.int .i64 l.e, .int .i64 l.f, .int .i64 l.t, .int .i64 l.w]
def lkC (l : List Lk) : List Value := l.flatMap Lk.cells
def nthK (l : List Lk) (i : Nat) : Lk := l.getD i ⟨0, 0, 0, 0⟩
def lkAt (e : Int × Int) (i v : Nat) : List Lk := if e.1 = e.2 then [] else if e.1 = v then [⟨i, v, e.2.toNat, 1⟩] else if e.2 = v then [⟨i, v, e.1.toNat, -1⟩] else []
def lkT (es : List (Int × Int)) (i v : Nat) : List Lk := (List.range i).flatMap fun j => lkAt (nthE es j) j v
theorem lkT_succ {es : List (Int × Int)} {i v : Nat} : lkT es (i + 1) v = lkT es i v ++ lkAt (nthE es i) i v := by
  simp [lkT, List.range_succ]
theorem lkAt_len {e : Int × Int} {i v : Nat} : (lkAt e i v).length ≤ 1 := by
  unfold lkAt
  split
  · simp
  · split
    · simp
    · split <;> simp
theorem lkT_len {es : List (Int × Int)} {v : Nat} : ∀ {i : Nat}, (lkT es i v).length ≤ i
  | 0 => by simp [lkT]
  | i + 1 => by
    have := lkT_len (es := es) (v := v) (i := i)
    have := lkAt_len (e := nthE es i) (i := i) (v := v)
    rw [lkT_succ, List.length_append]; omega
theorem lkC_len {l : List Lk} : (lkC l).length = l.length * 4 := by
  induction l with
  | nil => rfl
  | cons a r ih => simp only [lkC, List.flatMap_cons, List.length_append, List.length_cons]; simp only [lkC] at ih; rw [ih]; simp [Lk.cells]; omega
theorem lkC_app {l m : List Lk} : lkC (l ++ m) = lkC l ++ lkC m := by simp [lkC]
theorem lkC_at {l : List Lk} : ∀ {i k : Nat}, i < l.length → k < 4 → (lkC l)[i * 4 + k]? = (nthK l i).cells[k]? := by
  induction l with
  | nil => intro i k h; simp at h
  | cons a r ih =>
    intro i k h hk
    have e : lkC (a :: r) = a.cells ++ lkC r := by simp [lkC]
    rw [e]
    cases i with
    | zero => rw [List.getElem?_append_left (by simp [Lk.cells]; omega)]; simp [nthK]
    | succ i =>
      rw [List.getElem?_append_right (by simp [Lk.cells]; omega)]
      have := ih (i := i) (k := k) (by simpa using h) hk
      rw [show (i + 1) * 4 + k - a.cells.length = i * 4 + k by simp [Lk.cells]; omega, this]
      simp [nthK]
/-- a row of edges seen from one end -/
structure RowK (h : Heap) (s : Sl) (l : List Lk) : Prop where
  ok : s.ok
  len : l.length = s.n
  v0 : ∀ i, i < l.length → hc h s.b (s.o + i * 4) = some (.int .i64 (nthK l i).e)
  v1 : ∀ i, i < l.length → hc h s.b (s.o + i * 4 + 1) = some (.int .i64 (nthK l i).f)
  v2 : ∀ i, i < l.length → hc h s.b (s.o + i * 4 + 2) = some (.int .i64 (nthK l i).t)
  v3 : ∀ i, i < l.length → hc h s.b (s.o + i * 4 + 3) = some (.int .i64 (nthK l i).w)
theorem RowK.ext {h h' : Heap} {s : Sl} {l : List Lk} (r : RowK h s l) (e : Ext h h') : RowK h' s l :=
  ⟨r.ok, r.len, fun i hi => e.hc (r.v0 i hi) (fun h => h), fun i hi => e.hc (r.v1 i hi) (fun h => h), fun i hi => e.hc (r.v2 i hi) (fun h => h), fun i hi => e.hc (r.v3 i hi) (fun h => h)⟩
theorem RowK.rd {h : Heap} {s : Sl} {l : List Lk} (r : RowK h s l) {i : Nat} (hi : i < l.length) : rd h s.b (s.o + i * 4) 4 = some (nthK l i).cells := by
  refine rd_of (l := (nthK l i).cells) fun j v hj => ?_
  match j with
  | 0 => simp [Lk.cells] at hj; subst hj; exact r.v0 i hi
  | 1 => simp [Lk.cells] at hj; subst hj; exact r.v1 i hi
  | 2 => simp [Lk.cells] at hj; subst hj; exact r.v2 i hi
  | 3 => simp [Lk.cells] at hj; subst hj; exact r.v3 i hi
  | j + 4 => simp [Lk.cells] at hj
theorem Own.rowK {h : Heap} {s : Sl} {l : List Lk} (o : Own h 4 s (lkC l)) : RowK h s l := by
  have hl := o.1
  rw [lkC_len] at hl
  refine ⟨o.ok, by omega, fun i hi => ?_, fun i hi => ?_, fun i hi => ?_, fun i hi => ?_⟩
  · have := o.cell (i := i * 4 + 0) (v := .int .i64 (nthK l i).e) (by rw [lkC_at hi (by omega)]; rfl)
    simpa using this
  · rw [Nat.add_assoc]; exact o.cell (i := i * 4 + 1) (by rw [lkC_at hi (by omega)]; rfl)
  · rw [Nat.add_assoc]; exact o.cell (i := i * 4 + 2) (by rw [lkC_at hi (by omega)]; rfl)
  · rw [Nat.add_assoc]; exact o.cell (i := i * 4 + 3) (by rw [lkC_at hi (by omega)]; rfl)
structure LinksH (h : Heap) (s : Sl) (N : Nat) (es : List (Int × Int)) : Prop where
  ok : s.ok
  len : s.n = N
  val : ∀ v, v < N → ∃ u : Sl, hc h s.b (s.o + v) = some u.v ∧ RowK h u (lkT es es.length v)
theorem LinksH.ext {h h' : Heap} {s : Sl} {N : Nat} {es : List (Int × Int)} (l : LinksH h s N es) (e : Ext h h') : LinksH h' s N es :=
  ⟨l.ok, l.len, fun v hv => by
    obtain ⟨u, a, b⟩ := l.val v hv
    exact ⟨u, e.hc a (fun h => h), b.ext e⟩⟩
/-- they stay, as long as nothing between lo and hi is changed -/
structure LinksK (lo hi : Nat) (h : Heap) (s : Sl) (N : Nat) (es : List (Int × Int)) : Prop where
  le : hi ≤ h.size
  all : ∀ h', Mod (fun j => ¬ (lo ≤ j ∧ j < hi)) h h' → LinksH h' s N es
theorem LinksK.mod {S : Nat → Prop} {lo hi : Nat} {h h' : Heap} {s : Sl} {N : Nat} {es : List (Int × Int)} (l : LinksK lo hi h s N es) (m : Mod S h h') (hs : ∀ j, lo ≤ j → j < hi → ¬ S j) : LinksK lo hi h' s N es :=
  ⟨Nat.le_trans l.le m.size, fun h'' m' => l.all h'' ((m.mono (S' := fun j => ¬ (lo ≤ j ∧ j < hi)) (fun j _ hj hq => hs j hq.1 hq.2 hj)).trans m')⟩
theorem LinksK.here {lo hi : Nat} {h : Heap} {s : Sl} {N : Nat} {es : List (Int × Int)} (l : LinksK lo hi h s N es) : LinksH h s N es := l.all h (Mod.refl h)

structure FamK (lo : Nat) (h : Heap) (n : Nat) (Q : Nat → Sl) (D : Nat → List Value) : Prop where
  own : ∀ v, v < n → Own h 4 (Q v) (D v)
  fr : ∀ v, v < n → (Q v).nl = false → lo ≤ (Q v).b
  dj : ∀ u v, u < n → v < n → u ≠ v → (Q u).nl = false → (Q v).nl = false → (Q u).b ≠ (Q v).b
def upS {α : Type} (Q : Nat → α) (c : Nat) (s : α) : Nat → α := fun v => if v = c then s else Q v
def slV (N : Nat) (Q : Nat → Sl) : List Value := (List.range N).map fun v => (Q v).v
theorem slV_len {N : Nat} {Q : Nat → Sl} : (slV N Q).length = N := by simp [slV]
theorem slV_at {N v : Nat} {Q : Nat → Sl} (hv : v < N) : (slV N Q)[v]? = some (Q v).v := by simp [slV, hv]
theorem slV_set {N v : Nat} {Q : Nat → Sl} {s : Sl} (hv : v < N) : (slV N Q).set v s.v = slV N (upS Q v s) := by
  apply List.ext_getElem
  · simp [slV]
  · intro i h1 h2
    simp [slV] at h1
    rw [List.getElem_set]
    simp only [slV, upS, List.getElem_map, List.getElem_range]
    by_cases c : v = i
    · subst c; simp
    · rw [if_neg c, if_neg (Ne.symm c)]
theorem slV_nil {N : Nat} : slV N (fun _ => Sl.nil) = List.replicate N (.slice none 0 0) := by
  apply List.ext_getElem
  · simp [slV]
  · intro i h1 h2; simp [slV, Sl.nil_v]
section
variable {Y : Sys} {h h' : Heap}
theorem FamK.none {lo n : Nat} : FamK lo h n (fun _ => Sl.nil) (fun _ => []) := ⟨fun _ _ => Own.nil, fun _ _ hn => (by cases hn), fun _ _ _ _ _ hn => (by cases hn)⟩
theorem FamK.mod {S : Nat → Prop} {lo n : Nat} {Q : Nat → Sl} {D : Nat → List Value} (q : FamK lo h n Q D) (m : Mod S h h') (hs : ∀ v, v < n → (Q v).nl = false → ¬ S (Q v).b) : FamK lo h' n Q D :=
  ⟨fun v hv => (q.own v hv).mod m (hs v hv), q.fr, q.dj⟩
theorem FamK.congr {lo n : Nat} {Q : Nat → Sl} {D D' : Nat → List Value} (q : FamK lo h n Q D) (e : ∀ v, v < n → D v = D' v) : FamK lo h n Q D' :=
  ⟨fun v hv => by rw [← e v hv]; exact q.own v hv, q.fr, q.dj⟩
theorem FamK.step {lo n t : Nat} {Q : Nat → Sl} {D : Nat → List Value} {s' : Sl} {nw : List Value} (q : FamK lo h n Q D) (ht : t < n) (hlo : lo ≤ h.size) (o : Own h' 4 s' (D t ++ nw)) (m : Mod (fun j => (Q t).nl = false ∧ j = (Q t).b) h h')
    (hs : (s'.b = (Q t).b ∧ s'.nl = (Q t).nl) ∨ (h.size ≤ s'.b ∧ s'.nl = false)) : FamK lo h' n (upS Q t s') (upS D t (D t ++ nw)) := by
  unfold upS
  refine ⟨fun v hv => ?_, fun v hv hn => ?_, fun u v hu hv hne h1 h2 => ?_⟩
  · by_cases c : v = t
    · subst c; simp only [if_true]; exact o
    · simp only [if_neg c]
      exact (q.own v hv).mod m fun hn hb => q.dj v t hv ht c hn hb.1 hb.2
  · by_cases c : v = t
    · simp only [if_pos c] at hn ⊢
      rcases hs with ⟨e1, e2⟩ | ⟨e1, _⟩
      · rw [e1]; exact q.fr t ht (by rw [← e2]; exact hn)
      · omega
    · simp only [if_neg c] at hn ⊢
      exact q.fr v hv hn
  · have lt : ∀ v, v < n → (Q v).nl = false → (Q v).b < h.size := fun v hv hn => (q.own v hv).lt hn
    by_cases c : u = t
    · have d : v ≠ t := fun d => hne (c.trans d.symm)
      simp only [if_pos c] at h1 ⊢
      simp only [if_neg d] at h2 ⊢
      subst c
      rcases hs with ⟨e1, e2⟩ | ⟨e1, _⟩
      · rw [e1]; exact q.dj u v hu hv hne (by rw [← e2]; exact h1) h2
      · have := lt v hv h2; omega
    · by_cases d : v = t
      · simp only [if_neg c] at h1 ⊢
        simp only [if_pos d] at h2 ⊢
        subst d
        rcases hs with ⟨e1, e2⟩ | ⟨e1, _⟩
        · rw [e1]; exact q.dj u v hu hv hne h1 (by rw [← e2]; exact h2)
        · have := lt u hu h1; omega
      · simp only [if_neg c] at h1 ⊢
        simp only [if_neg d] at h2 ⊢
        exact q.dj u v hu hv hne h1 h2
theorem ef_makeS {K : Value → Heap → Prop} {n : Nat} {m : Int} (hn : n ≤ 1000000) (hm : m = n) (hr : ∀ (b : Nat) (h' : Heap), h.size ≤ b → Own h' 1 (Sl.at b n n) (List.replicate n (.slice none 0 0)) → Ext h h' → b < h'.size → K (.slice (some ⟨b, 0, none⟩) n n) h') :
    Ef.wp h K (.mkslice 1 24 #[.slice none 0 0]) [.int .i64 m, .int .i64 m] := by
  subst hm
  rw [ef_mkslice]
  refine ⟨by omega, by omega, by omega, by omega, fun t => ?_⟩
  simp only [Int.toNat_natCast, Nat.mul_one, zeros_one]
  refine hr h.size _ (Nat.le_refl _) ⟨by simp, .inr ⟨rfl, rfl, rfl, Nat.le_refl _, by simp; omega, _, Blk.new, by simp, by simp⟩⟩ Mod.push (by simp)
@[simp] theorem sem_build_lk {z0 z1 z2 z3 : Value} {a b c d : Int} : IOp.sem Y h (.build #[z0, z1, z2, z3] [(0, 1), (1, 1), (2, 1), (3, 1)] [0, 1, 2, 3]) [.int .i64 a, .int .i64 b, .int .i64 c, .int .i64 d] = some (.agg #[.int .i64 a, .int .i64 b, .int .i64 c, .int .i64 d]) := by
  rfl
theorem ef_bsliceK {K : Value → Heap → Prop} {z0 z1 z2 z3 x y z w : Value} (hk : ∀ (b : Nat) (h' : Heap), h.size ≤ b → Blk h' b #[x, y, z, w] → Ext h h' → K (.slice (some ⟨b, 0, none⟩) 1 1) h') :
    Ef.wp h K (.bslice 1 4 #[z0, z1, z2, z3] [0]) [.agg #[x, y, z, w]] := by
  refine ef_bslice_all (n := 1) rfl rfl rfl (fun b h' g B e _ => ?_) (by omega)
  exact hk b h' g (by simpa using B) e
theorem ef_appendK {K : Value → Heap → Prop} {b : Nat} {zero : Array Value} {s : Sl} {l : List Lk} {k : Lk} (hz : zero.size = 4) (o : Own h 4 s (lkC l)) (hb : Blk h b #[.int .i64 k.e, .int .i64 k.f, .int .i64 k.t, .int .i64 k.w]) (hn : l.length ≤ 1000000)
    (hk : ∀ (s' : Sl) (h' : Heap), Own h' 4 s' (lkC (l ++ [k])) → s'.n = s.n + 1 → Mod (fun j => s.nl = false ∧ j = s.b) h h' → ((s'.b = s.b ∧ s'.nl = s.nl) ∨ (h.size ≤ s'.b ∧ s'.nl = false)) → K s'.v h') :
    Ef.wp h K (.append 4 32 zero) [s.v, .slice (some ⟨b, 0, none⟩) 1 1] := by
  have hl := o.1
  rw [lkC_len] at hl
  refine ef_append_own (m := 1) (nw := k.cells) o rfl (by rw [srcOf_at]; exact rd_blk hb rfl) rfl (by simp [Lk.cells]) hz (by omega) (by omega) ?_
  intro s' h' o' n' m' f'
  refine hk s' h' ?_ n' m' f'
  rw [lkC_app]
  simpa [lkC] using o'
@[simp] theorem ef_store_sl {K : Value → Heap → Prop} {b o : Nat} {x : Option Addr} {n c : Nat} : Ef.wp h K (.store 1) [.pointer (some ⟨b, o, none⟩), .slice x n c] = StoreP h b o (.slice x n c) K := ef_store1_eq rfl

def FlI (N b : Nat) (es : List (Int × Int)) (se : Sl) (h0 : Heap) (e : List Value) (h' : Heap) : Prop :=
  ∃ (i : Nat) (Q : Nat → Sl) (v2 v4 v5 v6 v7 v11 v12 : Value), e = [.int .i64 N, se.v, v2, .slice (some ⟨b, 0, none⟩) N N, v4, v5, v6, v7, se.v, .int .i64 se.n, .int .i64 i, v11, v12] ∧ i ≤ es.length ∧ Mod (fun j => j = b) h0 h' ∧ FamK h0.size h' N Q (fun v => lkC (lkT es i v)) ∧ Own h' 1 (Sl.at b N N) (slV N Q)

theorem links_spec (H : Y.Has F.flow_links S_flow_links) {N : Nat} {se : Sl} {es : List (Int × Int)} (re : RowE h se es) (hE : EsIn N es) (hN : N ≤ 4096) (be : es.length ≤ 16384)
    {R : Value → Heap → Prop} (hr : ∀ h' b, Ext h h' → h.size ≤ b → LinksK h.size h'.size h' (Sl.at b N N) N es → R (.slice (some ⟨b, 0, none⟩) N N) h') :
    CallP Y F.flow_links [.int .i64 N, se.v] h R := by
  have le := re.len
  refine .of_has H rfl ?_
  simp [S_flow_links, FnS.wp]
  refine ef_makeS (n := N) (by omega) rfl ?_
  intro b h1 g1 o1 e1 l1
  simp
  rw [← slV_nil] at o1
  refine wp_loop' (FlI N b es se h1) (fun e _ => es.length - argI e 10) ⟨0, fun _ => Sl.nil, _, _, _, _, _, _, _, rfl, by omega, Mod.refl _, by simpa [lkT, lkC] using FamK.none, o1⟩ ?_
  rintro e h2 ⟨i, Q, v2, v4, v5, v6, v7, v11, v12, rfl, hi, m2, fq, oq⟩
  have z2 := m2.size
  have x2 : Ext h h2 := Mod.toExtF e1 m2 g1
  by_cases c : i < es.length
  rotate_left
  · have c' : ¬ (i : Int) < se.n := by omega
    simp [c']
    have hi' : i = es.length := by omega
    subst hi'
    refine hr h2 b x2 g1 ⟨Nat.le_refl _, fun h' m => ?_⟩
    have o2 := oq.mod m (fun _ => by simp; omega)
    refine ⟨o2.ok, rfl, fun v hv => ⟨Q v, by simpa using o2.cell (slV_at hv), (Own.mod (fq.own v hv) m (fun hn => ?_)).rowK⟩⟩
    have q1 := fq.fr v hv hn
    have q2 := (fq.own v hv).lt hn
    have := e1.size
    simp; omega
  have c' : (i : Int) < se.n := by omega
  have cs : i < se.n := by omega
  have w1 : IntKind.i64.wrap ((i : Int) + 1) = (i : Int) + 1 := i64_wrap (by omega)
  obtain ⟨u, v, he, lu, lv⟩ := hE.at c
  have hrd := (re.ext x2).rd c
  rw [he] at hrd
  simp [c', cs, sem_idxa re.ok, hrd]
  refine ef_new_box ?_
  intro T h3 g3 T3 e3
  simp
  refine ef_store_box T3 rfl rfl (by simp) ?_
  intro h4 T4 m4
  have z3 := e3.size
  have z4 := m4.size
  have e4 : Ext h2 h4 := Mod.toExtF e3 m4 g3
  simp [T4.hc]
  have fq4 : FamK h1.size h4 N Q (fun v => lkC (lkT es i v)) := fq.mod e4 (fun _ _ _ h => h)
  have oq4 := oq.ext' e4
  by_cases k : u = v
  · subst k
    simp [w1]
    refine ⟨⟨i + 1, Q, _, _, _, _, _, _, _, rfl, by omega, m2.then e4 (fun _ _ h => h.elim), fq4.congr (fun v hv => by rw [lkT_succ, he]; simp [lkAt]), oq4⟩, by simp [argI]; omega⟩
  have k' : ¬ (u : Int) = (v : Int) := by omega
  have hiF : ∀ g (w : Nat), w < N → IOp.sem Y g (.idxa 1) [.slice (some ⟨b, 0, none⟩) N N, .int .i64 w] = some (.pointer (some ⟨b, w, none⟩)) := fun g w lw => by
    have := sem_idxF (Y := Y) (h := g) (b := b) (sz := 1) (show N ≤ 9223372036854775807 by omega) lw (Nat.le_refl N)
    simpa using this
  have hq := oq4.cell (slV_at lu)
  simp at hq
  simp [k', hiF _ u lu, hq]
  refine ef_bsliceK ?_
  intro B h5 g5 B5 e5
  have z5 := e5.size
  have fq5 : FamK h1.size h5 N Q (fun v => lkC (lkT es i v)) := fq4.mod e5 (fun _ _ _ h => h)
  have hlen := fun w => lkT_len (es := es) (i := i) (v := w)
  simp
  refine ef_appendK (k := ⟨i, u, v, 1⟩) rfl (fq5.own u lu) B5 (by have := hlen u; omega) ?_
  intro s6 h6 o6 n6 m6 f6
  have z6 := m6.size
  have fr5 := fq5.fr u lu
  have oq6 := (oq4.ext' e5).mod m6 (fun _ hh => by have := fr5 hh.1; have h2 := hh.2; simp at h2; omega)
  rw [lkC_app] at o6
  have fq6 := fq5.step lu (by omega) o6 m6 f6
  simp [hiF _ u lu]
  refine stAt oq6 (k := u) (by rw [slV_len]; exact lu) ?_
  intro h7 o7 m7
  have z7 := m7.size
  rw [slV_set lu] at o7
  have fq7 := fq6.mod m7 (fun w hw hn => by have := fq6.fr w hw hn; omega)
  have hq7 := o7.cell (slV_at lv)
  have kv : ¬ v = u := fun h => k h.symm
  simp [upS, kv] at hq7
  simp [hiF _ v lv, hq7]
  refine ef_bsliceK ?_
  intro B' h8 g8 B8 e8
  have z8 := e8.size
  have fq8 : FamK h1.size h8 N (upS Q u s6) _ := fq7.mod e8 (fun _ _ _ h => h)
  simp
  have hov := fq8.own v lv
  simp [upS, kv] at hov
  refine ef_appendK (k := ⟨i, v, u, -1⟩) rfl hov B8 (by have := hlen v; omega) ?_
  intro s9 h9 o9 n9 m9 f9
  have z9 := m9.size
  have fr8 := fq8.fr v lv
  simp [upS, kv] at fr8
  have oq9 := (o7.ext' e8).mod m9 (fun _ hh => by have := fr8 hh.1; have h2 := hh.2; simp at h2; omega)
  rw [lkC_app] at o9
  have fq9 := fq8.step (t := v) (s' := s9) (nw := lkC [⟨i, v, u, -1⟩]) (h' := h9) lv (by omega) (by simpa [upS, kv] using o9) (by simpa [upS, kv] using m9) (by simpa [upS, kv] using f9)
  simp [hiF _ v lv]
  refine stAt oq9 (k := v) (by rw [slV_len]; exact lv) ?_
  intro h10 o10 m10
  rw [slV_set lv] at o10
  have fq10 := fq9.mod m10 (fun w hw hn => by have := fq9.fr w hw hn; omega)
  have mA : Mod (fun j => j = b) h1 h10 :=
    ((((((m2.then e4 (fun _ _ h => h.elim)).then e5 (fun _ _ h => h.elim)).then m6 (fun j hj hh => by have := fr5 hh.1; omega)).trans m7).then e8 (fun _ _ h => h.elim)).then m9 (fun j hj hh => by have := fr8 hh.1; omega)).trans m10
  simp [w1]
  refine ⟨⟨i + 1, upS (upS Q u s6) v s9, _, _, _, _, _, _, _, rfl, by omega, mA, fq10.congr (fun w hw => ?_), o10⟩, by simp [argI]; omega⟩
  rw [lkT_succ, he]
  simp only [upS, lkC_app, lkAt, if_neg k']
  by_cases cv : w = v
  · subst cv
    simp [kv]
    have : ¬ (u : Int) = (w : Int) := k'
    simp [this]
  · by_cases cu : w = u
    · subst cu
      simp [cv]
    · have c1 : ¬ (u : Int) = (w : Int) := by omega
      have c2 : ¬ (v : Int) = (w : Int) := by omega
      simp [cv, cu, c1, c2, lkC]
end
end Go.Rm

/- Flows: how far each vertex is. -/
set_option linter.unusedSimpArgs false
set_option linter.unusedVariables false
namespace Go.Rm
theorem nthK_mem {l : List Lk} {i : Nat} (hi : i < l.length) : nthK l i ∈ l := by
  have : nthK l i = l[i] := by simp [nthK, hi]
  rw [this]; exact List.getElem_mem hi
theorem mem_nthK {l : List Lk} {k : Lk} (h : k ∈ l) : ∃ i, i < l.length ∧ nthK l i = k := by
  obtain ⟨i, hi, rfl⟩ := List.getElem_of_mem h
  exact ⟨i, hi, by simp [nthK, hi]⟩
/-- what an edge seen from v is -/
structure LkOK (N : Nat) (es : List (Int × Int)) (v : Nat) (k : Lk) : Prop where
  e : k.e < es.length
  f : k.f = v
  t : k.t < N
  ne : k.t ≠ v
  way : (k.w = 1 ∧ nthE es k.e = ((v : Int), (k.t : Int))) ∨ (k.w = -1 ∧ nthE es k.e = ((k.t : Int), (v : Int)))
theorem lk_ok {N v : Nat} {es : List (Int × Int)} (hE : EsIn N es) {k : Lk} (h : k ∈ lkT es es.length v) : LkOK N es v k := by
  simp only [lkT, List.mem_flatMap, List.mem_range] at h
  obtain ⟨j, hj, hk⟩ := h
  obtain ⟨a, b, he, ha, hb⟩ := hE.at hj
  rw [he] at hk
  unfold lkAt at hk
  split at hk
  · simp at hk
  · split at hk
    · rename_i c1 c2
      simp at hk c1 c2
      subst hk
      exact ⟨hj, rfl, by simpa using hb, by simp; omega, .inl ⟨rfl, by simp [he]; omega⟩⟩
    · split at hk
      · rename_i c1 c2 c3
        simp at hk c1 c2 c3
        subst hk
        exact ⟨hj, rfl, by simpa using ha, by simp; omega, .inr ⟨rfl, by simp [he]; omega⟩⟩
      · simp at hk
theorem lk_mem {N v w j : Nat} {es : List (Int × Int)} (hj : j < es.length) (hne : v ≠ w) :
    (nthE es j = ((v : Int), (w : Int)) → ⟨j, v, w, 1⟩ ∈ lkT es es.length v) ∧ (nthE es j = ((w : Int), (v : Int)) → ⟨j, v, w, -1⟩ ∈ lkT es es.length v) := by
  simp only [lkT, List.mem_flatMap, List.mem_range]
  constructor
  · intro he
    refine ⟨j, hj, ?_⟩
    have : ¬ (v : Int) = w := by omega
    simp [lkAt, he, this]
  · intro he
    refine ⟨j, hj, ?_⟩
    have h1 : ¬ (v : Int) = w := by omega
    have h2 : ¬ (w : Int) = v := by omega
    simp [lkAt, he, h2]
theorem room_lk {N v w : Nat} {es : List (Int × Int)} {fl : List Int} (hE : EsIn N es) : Room (edL es fl) v w ↔ ∃ k, k ∈ lkT es es.length v ∧ k.t = w ∧ nthI fl k.e ≠ k.w := by
  simp only [Room, edL, List.mem_map, List.mem_range]
  constructor
  · rintro ⟨hab, _, ⟨i, hi, rfl⟩, h⟩
    obtain ⟨p, q, he, hp, hq⟩ := hE.at hi
    rw [he] at h
    simp only [Int.toNat_natCast] at h
    have hm := lk_mem (N := N) (es := es) hi hab
    rcases h with ⟨rfl, rfl, hx⟩ | ⟨rfl, rfl, hx⟩
    · exact ⟨_, hm.1 he, rfl, hx⟩
    · exact ⟨_, hm.2 he, rfl, hx⟩
  · rintro ⟨k, hk, rfl, hx⟩
    have o := lk_ok hE hk
    refine ⟨Ne.symm o.ne, _, ⟨k.e, o.e, rfl⟩, ?_⟩
    rcases o.way with ⟨hw, he⟩ | ⟨hw, he⟩
    · left; rw [he]; rw [hw] at hx; simp [hx]
    · right; rw [he]; rw [hw] at hx; simp [hx]

section
variable {N : Nat} {L : List Ed} {A mk mk' : Nat → Prop} {q : List Nat} {cur cur' : Nat → Nat → Prop}
theorem Bfs.markG (b : Bfs N L A mk q cur) {v w : Nat} (hv : v < N) (hmv : mk v) (hw : w < N) (hr : Room L v w) (hmk : ∀ a, a < N → (mk' a ↔ mk a ∨ a = w)) (hA : ∀ a, A a → a < N) (ends : ∀ e ∈ L, e.u < N ∧ e.v < N)
    (hc : ∀ a x, cur a x → x ≠ w → cur' a x) : Bfs N L A mk' (q ++ [w]) cur' where
  sound := fun a ha hm => by
    rcases (hmk a ha).1 hm with h | rfl
    · exact b.sound a ha h
    · exact (b.sound v hv hmv).step hr
  start := fun a ha => (hmk a (hA a ha)).2 (.inl (b.start a ha))
  wait := fun a ha => by
    rcases List.mem_append.1 ha with h | h
    · exact ⟨(b.wait a h).1, (hmk a (b.wait a h).1).2 (.inl (b.wait a h).2)⟩
    · simp at h
      subst h
      exact ⟨hw, (hmk a hw).2 (.inr rfl)⟩
  closed := fun a ha hm hq x hr' => by
    simp at hq
    have hx : x < N := (hr'.lt ends).2
    rcases (hmk a ha).1 hm with h | h
    · rcases b.closed a ha h hq.1 x hr' with h' | h'
      · by_cases e : x = w
        · exact .inr ((hmk x hx).2 (.inr e))
        · exact .inl (hc a x h' e)
      · exact .inr ((hmk x hx).2 (.inl h'))
    · exact absurd h hq.2
theorem Bfs.skipG (b : Bfs N L A mk q cur) (h : ∀ a x, cur a x → cur' a x ∨ mk x) : Bfs N L A mk q cur' where
  sound := b.sound
  start := b.start
  wait := b.wait
  closed := fun a ha hm hq x hr => by
    rcases b.closed a ha hm hq x hr with h' | h'
    · exact h a x h'
    · exact .inr h'
theorem Bfs.popG {v : Nat} (b : Bfs N L A mk (v :: q) (fun _ _ => False)) (h : ∀ x, Room L v x → cur v x) : Bfs N L A mk q cur where
  sound := b.sound
  start := b.start
  wait := fun w hw => b.wait w (List.mem_cons_of_mem _ hw)
  closed := fun a ha hm hq w hr => by
    by_cases e : a = v
    · subst e; exact .inl (h w hr)
    · rcases b.closed a ha hm (by simp [e, hq]) w hr with h | h
      · exact h.elim
      · exact .inr h
end
theorem edL_ends {N : Nat} {es : List (Int × Int)} {fl : List Int} (hE : EsIn N es) : ∀ e ∈ edL es fl, e.u < N ∧ e.v < N := by
  intro e he
  simp only [edL, List.mem_map, List.mem_range] at he
  obtain ⟨j, hj, rfl⟩ := he
  obtain ⟨p, q, he, hp, hq⟩ := hE.at hj
  simp [he, hp, hq]
/-- links of the current vertex that are still to be looked at -/
def curK (l : List Lk) (gl : List Int) (v i : Nat) (a w : Nat) : Prop := a = v ∧ ∃ j, i ≤ j ∧ j < l.length ∧ (nthK l j).t = w ∧ nthI gl (nthK l j).e ≠ (nthK l j).w
/-- what depths tells -/
structure DepthOK (N : Nat) (L : List Ed) (A : Nat → Prop) (l : List Int) : Prop where
  len : l.length = N
  lo : ∀ v, v < N → -1 ≤ nthI l v
  hi : ∀ v, v < N → nthI l v ≤ N
  reach : ∀ v, v < N → (0 ≤ nthI l v ↔ Reach L A v)
  up : ∀ w, w < N → 0 ≤ nthI l w → A w ∨ ∃ v, v < N ∧ 0 ≤ nthI l v ∧ Room L v w ∧ nthI l w = nthI l v + 1
/-- while the vertices are marked -/
structure DepI (N : Nat) (L : List Ed) (A : Nat → Prop) (l : List Int) : Prop where
  len : l.length = N
  lo : ∀ v, v < N → -1 ≤ nthI l v
  hi : ∀ v, v < N → nthI l v + l.count (-1) ≤ N
  up : ∀ w, w < N → 0 ≤ nthI l w → A w ∨ ∃ v, v < N ∧ 0 ≤ nthI l v ∧ Room L v w ∧ nthI l w = nthI l v + 1
theorem count_mark1 {l : List Int} {v : Nat} {x : Int} (hv : v < l.length) (h2 : nthI l v = -1) (hx : x ≠ -1) : (l.set v x).count (-1) + 1 = l.count (-1) := by
  rw [List.count_set hv]
  have e : l[v] = -1 := by rw [← nthI_at hv]; exact h2
  have hp : 0 < l.count (-1) := List.count_pos_iff.2 (by rw [← e]; exact List.getElem_mem hv)
  simp [e, hx]
  omega
theorem DepI.start {N : Nat} {L : List Ed} {A A' : Nat → Prop} {l : List Int} (d : DepI N L A l) {v : Nat} (hv : v < N) (h : nthI l v = -1) (hA : ∀ a, A a → A' a) (ha : A' v) : DepI N L A' (l.set v 0) := by
  have hl := d.len
  have hc := count_mark1 (l := l) (x := 0) (by omega) h (by decide)
  refine ⟨by simp [hl], fun w hw => ?_, fun w hw => ?_, fun w hw => ?_⟩
  · rw [nthI_set (by omega)]; split
    · omega
    · exact d.lo w hw
  · rw [nthI_set (by omega)]; split
    · have := d.hi v hv; omega
    · have := d.hi w hw; omega
  · rw [nthI_set (by omega)]
    split
    · rename_i e; subst e; exact fun _ => .inl ha
    · intro h0
      rcases d.up w hw h0 with h1 | ⟨u, h1, h2, h3, h4⟩
      · exact .inl (hA _ h1)
      · have hu : u ≠ v := fun e => by subst e; omega
        refine .inr ⟨u, h1, ?_, h3, ?_⟩
        · rw [nthI_set (by omega), if_neg hu]; exact h2
        · rw [nthI_set (by omega), if_neg hu]; exact h4
theorem DepI.mono {N : Nat} {L : List Ed} {A A' : Nat → Prop} {l : List Int} (d : DepI N L A l) (hA : ∀ a, A a → A' a) : DepI N L A' l :=
  ⟨d.len, d.lo, d.hi, fun w hw h => (d.up w hw h).imp (hA w) id⟩
theorem DepI.mark {N : Nat} {L : List Ed} {A : Nat → Prop} {l : List Int} (d : DepI N L A l) {v w : Nat} (hv : v < N) (hmv : 0 ≤ nthI l v) (hw : w < N) (h : nthI l w = -1) (hr : Room L v w) : DepI N L A (l.set w (nthI l v + 1)) := by
  have hl := d.len
  have hc := count_mark1 (l := l) (x := nthI l v + 1) (by omega) h (by omega)
  have hvw : v ≠ w := fun e => by subst e; omega
  refine ⟨by simp [hl], fun u hu => ?_, fun u hu => ?_, fun u hu => ?_⟩
  · rw [nthI_set (by omega)]; split
    · omega
    · exact d.lo u hu
  · rw [nthI_set (by omega)]; split
    · have := d.hi v hv; omega
    · have := d.hi u hu; omega
  · rw [nthI_set (by omega)]
    split
    · rename_i e; subst e
      intro _
      refine .inr ⟨v, hv, ?_, hr, ?_⟩
      · rw [nthI_set (by omega), if_neg hvw]; exact hmv
      · rw [nthI_set (by omega), if_neg hvw]
    · intro h0
      rcases d.up u hu h0 with h1 | ⟨x, h1, h2, h3, h4⟩
      · exact .inl h1
      · have hx : x ≠ w := fun e => by subst e; omega
        refine .inr ⟨x, h1, ?_, h3, ?_⟩
        · rw [nthI_set (by omega), if_neg hx]; exact h2
        · rw [nthI_set (by omega), if_neg hx]; exact h4
/-- the flow, or the flow turned about -/
def wayL (d : Bool) (fl : List Int) : List Int := if d then fl else negL fl
def wayI (d : Bool) : Int := if d then 1 else -1
theorem way_ne {d : Bool} {fl : List Int} {e : Nat} {w : Int} (hw : w = 1 ∨ w = -1) : (nthI fl e ≠ IntKind.i64.wrap (wayI d * w)) ↔ nthI (wayL d fl) e ≠ w := by
  cases d with
  | true => rcases hw with rfl | rfl <;> simp [wayI, wayL, i64_wrap]
  | false =>
    rcases hw with rfl | rfl <;> simp only [wayI, wayL, Bool.false_eq_true, if_false, nthI_neg] <;> rw [i64_wrap (by decide)] <;> omega
section
variable {Y : Sys} {h h' : Heap}
def FpI1 (N b : Nat) (s sf ss : Sl) (way : Int) (h0 : Heap) (e : List Value) (h' : Heap) : Prop :=
  ∃ (i : Nat) (v4 v6 v7 v8 v9 v10 v11 v14 v15 v16 v17 v18 v19 v20 v21 v22 v23 v24 v25 : Value), e = [s.v, sf.v, ss.v, .int .i64 way, v4, .slice (some ⟨b, 0, none⟩) N N, v6, v7, v8, v9, v10, v11, .int .i64 N, .int .i64 i, v14, v15, v16, v17, v18, v19, v20, v21, v22, v23, v24, v25] ∧ i ≤ N ∧ Mod (fun j => j = b) h0 h' ∧ ∃ l : List Int, l.length = N ∧ Own h' 1 (Sl.at b N N) (ints64 l) ∧ ∀ j, j < i → nthI l j = -1
def FpI2 (N b : Nat) (s sf ss : Sl) (way : Int) (L : List Ed) (src : List Int) (h0 : Heap) (e : List Value) (h' : Heap) : Prop :=
  ∃ (i : Nat) (t : Sl) (v4 v6 v8 v9 v10 v11 v12 v13 v14 v18 v19 v20 v21 v22 v23 v24 v25 : Value), e = [s.v, sf.v, ss.v, .int .i64 way, v4, .slice (some ⟨b, 0, none⟩) N N, v6, t.v, v8, v9, v10, v11, v12, v13, v14, ss.v, .int .i64 ss.n, .int .i64 i, v18, v19, v20, v21, v22, v23, v24, v25] ∧ i ≤ src.length ∧ Mod (fun j => j = b) h0 h' ∧ ∃ (l : List Int) (q : List Nat), Own h' 1 (Sl.at b N N) (ints64 l) ∧ Own h' 1 t (vtsV q) ∧ (t.nl = false → h0.size ≤ t.b) ∧ q.length + l.count (-1) = N ∧ DepI N L (inSetN (src.take i)) l ∧ (∀ v, v < N → (0 ≤ nthI l v ↔ inSetN (src.take i) v)) ∧ (∀ v, v ∈ q ↔ inSetN (src.take i) v)
def FpI3 (N b : Nat) (s sf ss : Sl) (way : Int) (L : List Ed) (A : Nat → Prop) (h0 : Heap) (e : List Value) (h' : Heap) : Prop :=
  ∃ (i : Nat) (t : Sl) (v4 v6 v8 v10 v11 v12 v13 v14 v15 v16 v17 v18 v19 v20 v21 v22 v23 v24 v25 : Value), e = [s.v, sf.v, ss.v, .int .i64 way, v4, .slice (some ⟨b, 0, none⟩) N N, v6, t.v, v8, .int .i64 i, v10, v11, v12, v13, v14, v15, v16, v17, v18, v19, v20, v21, v22, v23, v24, v25] ∧ i ≤ N ∧ Mod (fun j => j = b) h0 h' ∧ ∃ (l : List Int) (q : List Nat), Own h' 1 (Sl.at b N N) (ints64 l) ∧ Own h' 1 t (vtsV q) ∧ (t.nl = false → h0.size ≤ t.b) ∧ i ≤ q.length ∧ q.length + l.count (-1) = N ∧ DepI N L A l ∧ Bfs N L A (fun v => 0 ≤ nthI l v) (q.drop i) (fun _ _ => False)
def FpI4 (N b I v : Nat) (s sf ss u : Sl) (way : Int) (L : List Ed) (A : Nat → Prop) (lk : List Lk) (gl : List Int) (h0 : Heap) (e : List Value) (h' : Heap) : Prop :=
  ∃ (i : Nat) (t : Sl) (v4 v6 v8 v11 v12 v13 v14 v15 v16 v17 v18 v19 v20 v24 v25 : Value), e = [s.v, sf.v, ss.v, .int .i64 way, v4, .slice (some ⟨b, 0, none⟩) N N, v6, t.v, v8, .int .i64 I, .int .i64 v, v11, v12, v13, v14, v15, v16, v17, v18, v19, v20, u.v, .int .i64 u.n, .int .i64 i, v24, v25] ∧ i ≤ u.n ∧ Mod (fun j => j = b) h0 h' ∧ ∃ (l : List Int) (q : List Nat), Own h' 1 (Sl.at b N N) (ints64 l) ∧ Own h' 1 t (vtsV q) ∧ (t.nl = false → h0.size ≤ t.b) ∧ I + 1 ≤ q.length ∧ q.length + l.count (-1) = N ∧ DepI N L A l ∧ 0 ≤ nthI l v ∧ Bfs N L A (fun v => 0 ≤ nthI l v) (q.drop (I + 1)) (curK lk gl v i)

theorem depths_spec (H : Y.Has F.flow_depths S_flow_depths) {N : Nat} {d : Bool} {s sf ss : Sl} {es : List (Int × Int)} {fl src : List Int} (rl : LinksH h s N es) (rf : Row64 h sf fl) (rs : Row64 h ss src)
    (hE : EsIn N es) (hS : ∀ i, i < src.length → inV N (nthI src i) = true) (hf : fl.length = es.length) (hN : N ≤ 4096) (be : es.length ≤ 16384) (bs : src.length ≤ 1000000)
    {R : Value → Heap → Prop} (hr : ∀ h' b l, Ext h h' → h.size ≤ b → Own h' 1 (Sl.at b N N) (ints64 l) → DepthOK N (edL es (wayL d fl)) (inSetN src) l → R (.slice (some ⟨b, 0, none⟩) N N) h') :
    CallP Y F.flow_depths [s.v, sf.v, ss.v, .int .i64 (wayI d)] h R := by
  have ln := rl.len
  have ls := rs.len
  have lf := rf.len
  refine .of_has H rfl ?_
  simp [S_flow_depths, FnS.wp, ln]
  refine ef_make64 (n := N) (by omega) rfl ?_
  intro b h1 g1 o1 e1 l1
  simp
  refine wp_loop' (FpI1 N b s sf ss (wayI d) h1) (fun e _ => N - argI e 13) ⟨0, _, _, _, _, _, _, _, _, _, _, _, _, _, _, _, _, _, _, _, rfl, by omega, Mod.refl _, _, by simp, o1, fun j hj => by omega⟩ ?_
  rintro e h2 ⟨i, v4, v6, v7, v8, v9, v10, v11, v14, v15, v16, v17, v18, v19, v20, v21, v22, v23, v24, v25, rfl, hi, m2, l, hl, o2, hall⟩
  by_cases c : i < N
  · have c' : (i : Int) < N := by omega
    have w1 : IntKind.i64.wrap ((i : Int) + 1) = (i : Int) + 1 := i64_wrap (by omega)
    have hiF : ∀ g, IOp.sem Y g (.idxa 1) [.slice (some ⟨b, 0, none⟩) N N, .int .i64 i] = some (.pointer (some ⟨b, i, none⟩)) := fun g => by
      have := sem_idxF (Y := Y) (h := g) (b := b) (sz := 1) (show N ≤ 9223372036854775807 by omega) c (Nat.le_refl N)
      simpa using this
    simp [c', c, hiF]
    refine stAt o2 (k := i) (by simp [hl]; omega) ?_
    intro h3 o3 m3
    rw [ints64_set] at o3
    simp [w1]
    refine ⟨⟨i + 1, _, _, _, _, _, _, _, _, _, _, _, _, _, _, _, _, _, _, _, rfl, by omega, m2.trans m3, l.set i (-1), by simp [hl], o3, fun j hj => ?_⟩, by simp [argI]; omega⟩
    rw [nthI_set (by omega)]
    by_cases q : j = i
    · simp [q]
    · simp [q]; exact hall j (by omega)
  have c' : ¬ (i : Int) < N := by omega
  simp [c']
  have hall' : ∀ j, j < N → nthI l j = -1 := fun j hj => hall j (by omega)
  have lrep : l = List.replicate N (-1) := by
    apply List.ext_getElem
    · simp [hl]
    · intro j a1 a2
      have := hall' j (by omega)
      rw [nthI_at a1] at this
      simp [this]
  have cnt : l.count (-1) = N := by rw [lrep]; simp
  refine wp_loop' (FpI2 N b s sf ss (wayI d) (edL es (wayL d fl)) src h2) (fun e _ => src.length - argI e 17) ⟨0, Sl.nil, _, _, _, _, _, _, _, _, _, _, _, _, _, _, _, _, _, rfl, by omega, Mod.refl _, l, [], o2, Own.nil, fun h => (by cases h), by simp [cnt], ⟨hl, fun v hv => by rw [hall' v hv]; omega, fun v hv => by rw [hall' v hv]; omega, fun v hv h0 => by rw [hall' v hv] at h0; omega⟩, fun v hv => by simp [inSetN, hall' v hv], fun v => by simp [inSetN]⟩ ?_
  clear hall' lrep hall o2 hl cnt
  rintro e h3 ⟨i2, t, v4, v6, v8, v9, v10, v11, v12, v13, v14, v18, v19, v20, v21, v22, v23, v24, v25, rfl, hi2, m3, l, q, o3, oq, fq, cq, dq, hm, hq⟩
  have lb : b < h2.size := by have := m2.size; omega
  have x3 : Ext h h3 := Mod.ext e1 (m2.trans (m3.mono fun _ _ h => h)) (fun j hj => by omega)
  have hl := dq.len
  by_cases k2 : i2 < src.length
  · have d' : (i2 : Int) < ss.n := by omega
    have ds : i2 < ss.n := by omega
    have w1 : IntKind.i64.wrap ((i2 : Int) + 1) = (i2 : Int) + 1 := i64_wrap (by omega)
    obtain ⟨v, hv, lv⟩ := inV_nat (hS i2 k2)
    have hiF : ∀ g, IOp.sem Y g (.idxa 1) [.slice (some ⟨b, 0, none⟩) N N, .int .i64 v] = some (.pointer (some ⟨b, v, none⟩)) := fun g => by
      have := sem_idxF (Y := Y) (h := g) (b := b) (sz := 1) (show N ≤ 9223372036854775807 by omega) lv (Nat.le_refl N)
      simpa using this
    have hb := o3.row64.val v (by omega)
    simp at hb
    have hs3 := (rs.ext x3).val i2 k2
    rw [hv] at hs3
    simp [d', ds, sem_idxa rs.ok, hs3, hiF, hb]
    by_cases k : nthI l v < 0
    · have hk1 : nthI l v = -1 := by have := dq.lo v lv; omega
      have k' : ¬ 0 ≤ nthI l v := by omega
      simp [k, k', hiF]
      refine stAt o3 (k := v) (by simp [hl]; omega) ?_
      intro h4 o4 m4
      rw [ints64_set] at o4
      have oq4 := oq.mod m4 (fun hn hb' => by have := fq hn; omega)
      simp [ef_bslice1_int]
      intro T
      have hql : (vtsV q).length = t.n := by have := oq.1; simpa using this
      simp [vtsV] at hql
      refine ef_append1 rfl oq4 (by omega) (by omega) ?_
      intro t' h5 o5 n5 m5 f5
      simp [w1]
      have hc := count_mark1 (l := l) (x := 0) (by omega) hk1 (by decide)
      have z4 := m4.size
      have z3 := m3.size
      have ft : t'.nl = false → h2.size ≤ t'.b := fun hn => by
        rcases f5 with ⟨f5, f6⟩ | ⟨f5, _⟩
        · rw [f5]; exact fq (by rw [← f6]; exact hn)
        · omega
      refine ⟨⟨i2 + 1, t', _, _, _, _, _, _, _, _, _, _, _, _, _, _, _, _, _, rfl, by omega, (m3.trans m4).then m5 (fun j hj hh => by have := fq hh.1; omega), l.set v 0, q ++ [v], o4.mod m5 (fun _ hh => by have := fq hh.1; have := hh.2; simp at this; omega), by simpa [vtsV] using o5, ft, by simp; omega, dq.start lv hk1 (fun a ha => (inSetN_succ k2).2 (.inl ha)) ((inSetN_succ k2).2 (.inr hv.symm)), fun w hw => ?_, fun w => ?_⟩, by simp [argI]; omega⟩
      · rw [nthI_set (by omega), inSetN_succ k2, hv]
        by_cases e : w = v
        · subst e; simp
        · rw [if_neg e, hm w hw]
          constructor
          · exact .inl
          · rintro (a | a)
            · exact a
            · omega
      · rw [inSetN_succ k2, hv, List.mem_append, hq w, List.mem_singleton]
        exact or_congr Iff.rfl (by omega)
    · have hsame : ∀ w, inSetN (src.take (i2 + 1)) w ↔ inSetN (src.take i2) w := fun w => by
        rw [inSetN_succ k2, hv]
        refine ⟨?_, .inl⟩
        rintro (a | a)
        · exact a
        · have : w = v := by omega
          subst this
          exact (hm w lv).1 (by omega)
      have k' : 0 ≤ nthI l v := by omega
      simp [k, k', w1]
      refine ⟨⟨i2 + 1, t, _, _, _, _, _, _, _, _, _, _, _, _, _, _, _, _, _, rfl, by omega, m3, l, q, o3, oq, fq, cq, dq.mono (fun a ha => (hsame a).2 ha), fun w hw => by rw [hsame]; exact hm w hw, fun w => by rw [hsame]; exact hq w⟩, by simp [argI]; omega⟩
  have d' : ¬ (i2 : Int) < ss.n := by omega
  rw [List.take_of_length_le (by omega)] at hm hq dq
  simp [d']
  have hA : ∀ a, inSetN src a → a < N := fun a ha => by
    obtain ⟨j, hj, he⟩ := List.getElem_of_mem ha
    have := hS j hj
    rw [nthI_at hj, he] at this
    simp [inV] at this
    exact this
  have bf : Bfs N (edL es (wayL d fl)) (inSetN src) (fun v => 0 ≤ nthI l v) (q.drop 0) (fun _ _ => False) := by
    refine ⟨fun v hv k => .start ((hm v hv).1 k), fun v a => (hm v (hA v a)).2 a, fun v hv => ⟨hA v ((hq v).1 hv), (hm v (hA v ((hq v).1 hv))).2 ((hq v).1 hv)⟩, fun v hv k hn => absurd ((hq v).2 ((hm v hv).1 k)) hn⟩
  refine wp_loop' (FpI3 N b s sf ss (wayI d) (edL es (wayL d fl)) (inSetN src) h2) (fun e _ => N - argI e 9) ⟨0, t, _, _, _, _, _, _, _, _, _, _, _, _, _, _, _, _, _, _, _, rfl, by omega, m3, l, q, o3, oq, fq, by omega, cq, dq, bf⟩ ?_
  clear bf hm hq dq cq fq oq o3 hl x3 m3 d' k2 hi2
  rintro e h4 ⟨i3, t, v4, v6, v8, v10, v11, v12, v13, v14, v15, v16, v17, v18, v19, v20, v21, v22, v23, v24, v25, rfl, hi3, m4, l, q, o4, oq, fq, iq, cq, dq, bf⟩
  have x4 : Ext h h4 := Mod.ext e1 (m2.trans m4) (fun j hj => by omega)
  have hql : q.length = t.n := by have := oq.1; simpa [vtsV] using this
  have hl := dq.len
  by_cases k3 : i3 < q.length
  rotate_left
  · have k3' : ¬ (i3 : Int) < t.n := by omega
    simp [k3']
    rw [List.drop_eq_nil_of_le (by omega)] at bf
    refine hr h4 b l x4 (by omega) o4 ⟨hl, dq.lo, fun v hv => by have := dq.hi v hv; omega, bf.done hA (edL_ends hE), dq.up⟩
  have k3' : (i3 : Int) < t.n := by omega
  have k3s : i3 < t.n := by omega
  obtain ⟨v, hv⟩ : ∃ v, q[i3] = v := ⟨_, rfl⟩
  rw [List.drop_eq_getElem_cons k3, hv] at bf
  have hv2 := bf.wait v (by simp)
  have hcv := oq.cell (i := i3) (v := .int .i64 v) (by simp [vtsV, k3, hv])
  obtain ⟨u, hu0, ru⟩ := rl.val v hv2.1
  have hu := x4.hc hu0 (fun h => h)
  have ul := ru.len
  have hvs : v < s.n := by have := hv2.1; omega
  have rk : ∀ x, Room (edL es (wayL d fl)) v x → curK (lkT es es.length v) (wayL d fl) v 0 v x := fun x hx => by
    obtain ⟨k, hk, ht, hw⟩ := (room_lk hE).1 hx
    obtain ⟨j, hj, rfl⟩ := mem_nthK hk
    exact ⟨rfl, j, by omega, hj, ht, hw⟩
  simp [k3', k3s, sem_idxa oq.ok, hcv, sem_idxa rl.ok, hvs, hu]
  refine wp_loop' (FpI4 N b i3 v s sf ss u (wayI d) (edL es (wayL d fl)) (inSetN src) (lkT es es.length v) (wayL d fl) h2) (fun e _ => u.n - argI e 23) ⟨0, t, _, _, _, _, _, _, _, _, _, _, _, _, _, _, _, rfl, by omega, m4, l, q, o4, oq, fq, by omega, cq, dq, hv2.2, bf.popG rk⟩ ?_
  have lv := hv2.1
  clear bf rk hcv hv2 hu hv k3s k3' k3 hl hql dq cq iq fq oq o4 m4
  rintro e h5 ⟨i4, t, v4, v6, v8, v11, v12, v13, v14, v15, v16, v17, v18, v19, v20, v24, v25, rfl, hi4, m5, l, q, o5, oq, fq, iq, cq, dq, mv, bf⟩
  have x5 : Ext h h5 := Mod.ext e1 (m2.trans m5) (fun j hj => by omega)
  have hql : q.length = t.n := by have := oq.1; simpa [vtsV] using this
  have hl := dq.len
  by_cases c : i4 < u.n
  rotate_left
  · have c1 : ¬ (i4 : Int) < u.n := by omega
    have w1 : IntKind.i64.wrap ((i3 : Int) + 1) = (i3 : Int) + 1 := i64_wrap (by omega)
    simp [c1, w1]
    have iq' : i3 + 1 ≤ N := by omega
    refine ⟨⟨i3 + 1, t, _, _, _, _, _, _, _, _, _, _, _, _, _, _, _, _, _, _, _, rfl, by omega, m5, l, q, o5, oq, fq, by omega, cq, dq, bf.skipG (fun a x hx => by obtain ⟨_, j, h1, h2, _⟩ := hx; omega)⟩, by simp [argI]; omega⟩
  have c1 : (i4 : Int) < u.n := by omega
  have hll := lkT_len (es := es) (i := es.length) (v := v)
  have w1 : IntKind.i64.wrap ((i4 : Int) + 1) = (i4 : Int) + 1 := i64_wrap (by omega)
  have hil : i4 < (lkT es es.length v).length := by omega
  have rd := (ru.ext x5).rd hil
  have lk := lk_ok hE (nthK_mem hil)
  have hrm : nthI (wayL d fl) (nthK (lkT es es.length v) i4).e ≠ (nthK (lkT es es.length v) i4).w → Room (edL es (wayL d fl)) v (nthK (lkT es es.length v) i4).t := fun hx => (room_lk hE).2 ⟨_, nthK_mem hil, rfl, hx⟩
  have hcur : ∀ a x, curK (lkT es es.length v) (wayL d fl) v i4 a x → (nthI (wayL d fl) (nthK (lkT es es.length v) i4).e ≠ (nthK (lkT es es.length v) i4).w ∧ x = (nthK (lkT es es.length v) i4).t) ∨ curK (lkT es es.length v) (wayL d fl) v (i4 + 1) a x := by
    rintro a x ⟨rfl, j, h1, h2, h3, h4⟩
    by_cases e : j = i4
    · subst e; exact .inl ⟨h4, h3.symm⟩
    · exact .inr ⟨rfl, j, by omega, h2, h3, h4⟩
  obtain ⟨k, hk⟩ : ∃ k, nthK (lkT es es.length v) i4 = k := ⟨_, rfl⟩
  rw [hk] at rd lk hrm hcur
  have hw : k.w = 1 ∨ k.w = -1 := by rcases lk.way with ⟨a, _⟩ | ⟨a, _⟩ <;> simp [a]
  have hway := way_ne (d := d) (fl := fl) (e := k.e) hw
  have le : k.e < sf.n := by have := lk.e; omega
  have lt := lk.t
  simp [c1, c, sem_idxa ru.ok, rd, Lk.cells]
  refine ef_new_box ?_
  intro T h6 g6 T6 e6
  simp
  refine ef_store_box T6 rfl rfl (by simp) ?_
  intro h7 T7 m7
  have e7 : Ext h5 h7 := Mod.toExtF e6 m7 g6
  have x7 := x5.trans e7
  have o7 := o5.ext' e7
  have oq7 := oq.ext' e7
  have m7' : Mod (fun j => j = b) h2 h7 := m5.then e7 (fun _ _ h => h.elim)
  have hiF : ∀ g w, w < N → IOp.sem Y g (.idxa 1) [.slice (some ⟨b, 0, none⟩) N N, .int .i64 w] = some (.pointer (some ⟨b, w, none⟩)) := fun g w lw => by
    have := sem_idxF (Y := Y) (h := g) (b := b) (sz := 1) (show N ≤ 9223372036854775807 by omega) lw (Nat.le_refl N)
    simpa using this
  have hb := o7.row64.val k.t (by omega)
  have hbv := o7.row64.val v (by omega)
  simp at hb hbv
  have hf7 := (rf.ext x7).val k.e (by omega)
  have z5 := m5.size
  have z7 := e7.size
  have hlo := dq.lo k.t lt
  have hhi := dq.hi v lv
  have wd : IntKind.i64.wrap (nthI l v + 1) = nthI l v + 1 := i64_wrap (by omega)
  by_cases k0 : nthI l k.t < 0
  · have k0' : ¬ 0 ≤ nthI l k.t := by omega
    have k1 : nthI l k.t = -1 := by omega
    by_cases kr : nthI (wayL d fl) k.e ≠ k.w
    · have kr' := hway.2 kr
      simp [T7.hc, hiF _ _ lt, hb, k0, k0', k1, sem_idxa rf.ok, le, hf7, kr', hiF _ _ lv, hbv, wd]
      refine stAt o7 (k := k.t) (by simp [hl]; omega) ?_
      intro h8 o8 m8
      rw [ints64_set] at o8
      have z8 := m8.size
      have oq8 := oq7.mod m8 (fun hn hb' => by have := fq hn; omega)
      have T8 : Blk h8 T _ := m8.blk T7 (by omega)
      simp [T8.hc, ef_bslice1_int]
      intro t0
      refine ef_append1 rfl oq8 (by omega) (by omega) ?_
      intro t' h9 o9 n9 m9 f9
      simp [w1]
      have hc := count_mark1 (l := l) (x := nthI l v + 1) (by omega) k1 (by omega)
      have ft : t'.nl = false → h2.size ≤ t'.b := fun hn => by
        rcases f9 with ⟨f5, f6⟩ | ⟨f5, _⟩
        · rw [f5]; exact fq (by rw [← f6]; exact hn)
        · omega
      have hset : ∀ a, a < N → (0 ≤ nthI (l.set k.t (nthI l v + 1)) a ↔ 0 ≤ nthI l a ∨ a = k.t) := fun a ha => by
        rw [nthI_set (by omega)]
        by_cases e : a = k.t
        · subst e; simp; omega
        · simp [e]
      have bf' := bf.markG (mk' := fun a => 0 ≤ nthI (l.set k.t (nthI l v + 1)) a) (cur' := curK (lkT es es.length v) (wayL d fl) v (i4 + 1)) lv mv lt (hrm kr) hset hA (edL_ends hE) (fun a x hx hne => (hcur a x hx).resolve_left (fun h => hne h.2))
      rw [← List.drop_append_of_le_length iq] at bf'
      refine ⟨⟨i4 + 1, t', _, _, _, _, _, _, _, _, _, _, _, _, _, _, _, rfl, by omega, (m7'.trans m8).then m9 (fun j hj hh => by have := fq hh.1; omega), l.set k.t (nthI l v + 1), q ++ [k.t], o8.mod m9 (fun _ hh => by have := fq hh.1; have := hh.2; simp at this; omega), by simpa [vtsV] using o9, ft, by simp; omega, by simp; omega, dq.mark lv mv lt k1 (hrm kr), (hset v lv).2 (.inl mv), bf'⟩, by simp [argI]; omega⟩
    · have kr' : nthI fl k.e = IntKind.i64.wrap (wayI d * k.w) := Decidable.byContradiction fun hx => kr (hway.1 hx)
      simp [T7.hc, hiF _ _ lt, hb, k0, k0', k1, sem_idxa rf.ok, le, hf7, kr', w1]
      refine ⟨⟨i4 + 1, t, _, _, _, _, _, _, _, _, _, _, _, _, _, _, _, rfl, by omega, m7', l, q, o7, oq7, fq, iq, cq, dq, mv, bf.skipG (fun a x hx => .inl ((hcur a x hx).resolve_left (fun h => kr h.1)))⟩, by simp [argI]; omega⟩
  · have k0' : 0 ≤ nthI l k.t := by omega
    simp [T7.hc, hiF _ _ lt, hb, k0, k0', w1]
    refine ⟨⟨i4 + 1, t, _, _, _, _, _, _, _, _, _, _, _, _, _, _, _, rfl, by omega, m7', l, q, o7, oq7, fq, iq, cq, dq, mv, bf.skipG (fun a x hx => (hcur a x hx).elim (fun h => .inr (by rw [h.2]; exact k0')) .inl)⟩, by simp [argI]; omega⟩
end
end Go.Rm

/- Flows: the program's sides. -/
set_option linter.unusedSimpArgs false
set_option linter.unusedVariables false
namespace Go.Rm
section
variable {Y : Sys} {h h' : Heap}
def FsI1 (N nb : Nat) (l : List Int) (s sf ss sd t : Sl) (v5 : Value) (h0 : Heap) (e : List Value) (h' : Heap) : Prop :=
  ∃ (i : Nat) (v6 v7 v8 v9 v13 v14 v15 v16 v17 : Value), e = [s.v, sf.v, ss.v, sd.v, .slice (some ⟨nb, 0, none⟩) N N, v5, v6, v7, v8, v9, t.v, .int .i64 N, .int .i64 i, v13, v14, v15, v16, v17] ∧ i ≤ N ∧ Mod (fun j => j = nb) h0 h' ∧ ∃ m : List Bool, m.length = N ∧ Own h' 1 (Sl.at nb N N) (boolsM m) ∧ ∀ j, j < i → nthM m j = decide (0 ≤ nthI l j)
def FsI2 (N nb : Nat) (l : List Int) (s sf ss sd t : Sl) (v4 : Value) (h0 : Heap) (e : List Value) (h' : Heap) : Prop :=
  ∃ (i : Nat) (v6 v7 v8 v9 v10 v11 v12 v13 v17 : Value), e = [s.v, sf.v, ss.v, sd.v, v4, .slice (some ⟨nb, 0, none⟩) N N, v6, v7, v8, v9, v10, v11, v12, v13, t.v, .int .i64 N, .int .i64 i, v17] ∧ i ≤ N ∧ Mod (fun j => j = nb) h0 h' ∧ ∃ m : List Bool, m.length = N ∧ Own h' 1 (Sl.at nb N N) (boolsM m) ∧ ∀ j, j < i → nthM m j = decide (nthI l j < 0)
structure SidesFns (Y : Sys) : Prop where
  depths : Y.Has F.flow_depths S_flow_depths
  sides : Y.Has F.flow_sides S_flow_sides
  links : Y.Has F.flow_links S_flow_links
theorem flsides_spec (P : SidesFns Y) {N : Nat} {s sf ss sd : Sl} {es : List (Int × Int)} {fl src dst : List Int} (rl : LinksH h s N es) (rf : Row64 h sf fl) (rs : Row64 h ss src) (rd' : Row64 h sd dst)
    (hE : EsIn N es) (hS : ∀ i, i < src.length → inV N (nthI src i) = true) (hD : ∀ i, i < dst.length → inV N (nthI dst i) = true) (hf : fl.length = es.length) (hN : N ≤ 4096) (be : es.length ≤ 16384) (bs : src.length ≤ 1000000) (bd : dst.length ≤ 1000000)
    {R : Value → Heap → Prop} (hr : ∀ h' c f m w, Ext h h' → h.size ≤ c → h.size ≤ f → m.length = N → w.length = N → Own h' 1 (Sl.at c N N) (boolsM m) → Own h' 1 (Sl.at f N N) (boolsM w) →
      (∀ v, v < N → (nthM m v = true ↔ Reach (edL es fl) (inSetN src) v)) → (∀ v, v < N → (nthM w v = true ↔ ¬ BReach (edL es fl) (inSetN dst) v)) → R (.tuple #[.slice (some ⟨c, 0, none⟩) N N, .slice (some ⟨f, 0, none⟩) N N]) h') :
    CallP Y F.flow_sides [s.v, sf.v, ss.v, sd.v] h R := by
  have ln := rl.len
  refine .of_has P.sides rfl ?_
  simp [S_flow_sides, FnS.wp, ln]
  refine ef_makeM (n := N) (by omega) rfl ?_
  intro c h1 g1 o1 e1 l1
  simp
  refine depths_spec (d := true) P.depths (rl.ext e1) (rf.ext e1) (rs.ext e1) hE hS hf hN be bs ?_
  intro h2 b l e2 g2 o2 dk
  have x2 := e1.trans e2
  have z1 := e1.size
  have z2 := e2.size
  simp
  have hl := dk.len
  refine wp_loop' (FsI1 N c l s sf ss sd (Sl.at b N N) (.slice none 0 0) h2) (fun e _ => N - argI e 12) ⟨0, _, _, _, _, _, _, _, _, _, rfl, by omega, Mod.refl _, List.replicate N false, by simp, by simpa [boolsM] using o1.ext' e2, fun j hj => by omega⟩ ?_
  rintro e h3 ⟨i, v6, v7, v8, v9, v13, v14, v15, v16, v17, rfl, hi, m3, m, hm, o3, hall⟩
  by_cases k : i < N
  · have k' : (i : Int) < N := by omega
    have w1 : IntKind.i64.wrap ((i : Int) + 1) = (i : Int) + 1 := i64_wrap (by omega)
    have hiF : ∀ g z, IOp.sem Y g (.idxa 1) [.slice (some ⟨z, 0, none⟩) N N, .int .i64 i] = some (.pointer (some ⟨z, i, none⟩)) := fun g z => by
      have := sem_idxF (Y := Y) (h := g) (b := z) (sz := 1) (show N ≤ 9223372036854775807 by omega) k (Nat.le_refl N)
      simpa using this
    have va := (o2.mod m3 (fun _ => by simp; omega)).row64.val i (by omega)
    simp at va
    simp [k, k', hiF, va]
    refine stAt o3 (k := i) (by rw [boolsM_len]; omega) ?_
    intro h4 o4 m4
    rw [boolsM_set] at o4
    simp [w1]
    refine ⟨⟨i + 1, _, _, _, _, _, _, _, _, _, rfl, by omega, m3.trans m4, _, by simp [hm], o4, fun j hj => by rw [nthM_set (by omega)]; by_cases q : j = i; (simp [q]); (rw [if_neg q]; exact hall j (by omega))⟩, by simp [argI]; omega⟩
  have k' : ¬ (i : Int) < N := by omega
  simp [k', ln]
  have x3 : Ext h h3 := Mod.toExtF x2 m3 g1
  have z3 := m3.size
  refine ef_makeM (n := N) (by omega) rfl ?_
  intro f h4 g4 o4 e4 l4
  have z4 := e4.size
  have x4 := x3.trans e4
  simp
  refine depths_spec (d := false) P.depths (rl.ext x4) (rf.ext x4) (rd'.ext x4) hE hD hf hN be bd ?_
  intro h5 b' l' e5 g5 o5 dk'
  have x5 := x4.trans e5
  have z5 := e5.size
  have hl' := dk'.len
  simp
  refine wp_loop' (FsI2 N f l' s sf ss sd (Sl.at b' N N) (.slice (some ⟨c, 0, none⟩) N N) h5) (fun e _ => N - argI e 16) ⟨0, _, _, _, _, _, _, _, _, _, rfl, by omega, Mod.refl _, List.replicate N false, by simp, by simpa [boolsM] using o4.ext' e5, fun j hj => by omega⟩ ?_
  rintro e h6 ⟨i6, v6, v7, v8, v9, v10, v11, v12, v13, v17, rfl, hi6, m6, w, hw, o6, hall6⟩
  by_cases k : i6 < N
  · have k' : (i6 : Int) < N := by omega
    have w1 : IntKind.i64.wrap ((i6 : Int) + 1) = (i6 : Int) + 1 := i64_wrap (by omega)
    have hiF : ∀ g z, IOp.sem Y g (.idxa 1) [.slice (some ⟨z, 0, none⟩) N N, .int .i64 i6] = some (.pointer (some ⟨z, i6, none⟩)) := fun g z => by
      have := sem_idxF (Y := Y) (h := g) (b := z) (sz := 1) (show N ≤ 9223372036854775807 by omega) k (Nat.le_refl N)
      simpa using this
    have va := (o5.mod m6 (fun _ => by simp; omega)).row64.val i6 (by omega)
    simp at va
    simp [k, k', hiF, va]
    refine stAt o6 (k := i6) (by rw [boolsM_len]; omega) ?_
    intro h7 o7 m7
    rw [boolsM_set] at o7
    simp [w1]
    refine ⟨⟨i6 + 1, _, _, _, _, _, _, _, _, _, rfl, by omega, m6.trans m7, _, by simp [hw], o7, fun j hj => by rw [nthM_set (by omega)]; by_cases q : j = i6; (simp [q]); (rw [if_neg q]; exact hall6 j (by omega))⟩, by simp [argI]; omega⟩
  have k'' : ¬ (i6 : Int) < N := by omega
  simp [k'']
  have x6 : Ext h h6 := Mod.toExtF x5 m6 (by omega)
  refine hr h6 c f m w x6 g1 (by omega) hm hw (((o3.ext' e4).ext' e5).mod m6 (fun _ => by simp; omega)) o6 (fun v hv => ?_) (fun v hv => ?_)
  · rw [hall v (by omega), decide_eq_true_eq]
    exact dk.reach v hv
  · have := dk'.reach v hv
    simp only [wayL, Bool.false_eq_true, if_false] at this
    rw [reach_neg] at this
    rw [hall6 v (by omega), decide_eq_true_eq, ← this]
    omega
end
end Go.Rm

/- Flows: rest and value. -/
set_option linter.unusedSimpArgs false
set_option linter.unusedVariables false
namespace Go.Rm
def okE (e : Int × Int) (x : Int) : Bool := decide (-1 ≤ x) && decide (x ≤ 1) && (decide (x = 0) || !decide (e.1 = e.2))
/-- along each edge at most one goes -/
def okFl (es : List (Int × Int)) (fl : List Int) : Prop := fl.length = es.length ∧ ∀ i, i < es.length → okE (nthE es i) (nthI fl i) = true
theorem okE_bound {e : Int × Int} {x : Int} (h : okE e x = true) : -1 ≤ x ∧ x ≤ 1 ∧ (e.1 = e.2 → x = 0) := by
  simp [okE] at h
  refine ⟨h.1.1, h.1.2, fun e => ?_⟩
  rcases h.2 with h | h
  · exact h
  · exact absurd e h
/-- nothing is left over but at src and dst -/
def RestZ (N : Nat) (es : List (Int × Int)) (fl src dst : List Int) : Prop := ∀ v, v < N → ¬ inSetN src v → ¬ inSetN dst v → netF (edL es fl) v = 0
def valV (N : Nat) (es : List (Int × Int)) (fl src : List Int) : Int := sumV N fun v => if (v : Int) ∈ src then netF (edL es fl) v else 0
theorem sumV_bound {g : Nat → Int} : ∀ {n : Nat}, (∀ v, v < n → -32768 ≤ g v ∧ g v ≤ 32768) → -(n * 32768 : Int) ≤ sumV n g ∧ sumV n g ≤ n * 32768
  | 0, _ => by simp [sumV]
  | n + 1, h => by
    have ih := sumV_bound (n := n) fun v hv => h v (by omega)
    have hn := h n (by omega)
    simp only [sumV]
    omega
theorem sumV_in {N w i : Nat} {l : List Int} {g : Nat → Int} (hi : i < l.length) (hw : nthI l i = (w : Int)) (lw : w < N) :
    sumV N (fun v => if (v : Int) ∈ l.take (i + 1) then g v else 0) = sumV N (fun v => if (v : Int) ∈ l.take i then g v else 0) + (if (w : Int) ∈ l.take i then 0 else g w) := by
  have s1 := sumV_one (x := if (w : Int) ∈ l.take i then 0 else g w) lw
  rw [← s1, ← sumV_add]
  refine sumV_congr fun v hv => ?_
  have hm : ((v : Int) ∈ l.take (i + 1)) ↔ ((v : Int) ∈ l.take i) ∨ (v : Int) = nthI l i := inSetN_succ (v := v) hi
  rw [hw] at hm
  by_cases e : w = v
  · subst e
    have : ((w : Int) ∈ l.take (i + 1)) := hm.2 (.inr rfl)
    rw [if_pos this, if_pos rfl]
    split <;> omega
  · have e' : ¬ (v : Int) = w := by omega
    have : ((v : Int) ∈ l.take (i + 1)) ↔ ((v : Int) ∈ l.take i) := ⟨fun h => (hm.1 h).resolve_right e', fun h => hm.2 (.inl h)⟩
    rw [if_neg e]
    simp [this]
theorem net_bound {N v : Nat} {es : List (Int × Int)} {fl : List Int} (be : es.length ≤ 16384) (ok : okFl es fl) : -32768 ≤ netF (edL es fl) v ∧ netF (edL es fl) v ≤ 32768 := by
  have := netT_bound (es := es) (fl := fl) (v := v) (i := es.length) fun j hj => ⟨(okE_bound (ok.2 j hj)).1, (okE_bound (ok.2 j hj)).2.1⟩
  rw [edT_all] at this
  omega
section
variable {Y : Sys} {h h' : Heap}
def FrI (N b : Nat) (es : List (Int × Int)) (fl : List Int) (se sf : Sl) (h0 : Heap) (e : List Value) (h' : Heap) : Prop :=
  ∃ (i : Nat) (v3 v4 v6 v7 v8 v9 v10 v14 v15 v16 v17 v18 v19 : Value), e = [.int .i64 N, se.v, sf.v, v3, v4, .slice (some ⟨b, 0, none⟩) N N, v6, v7, v8, v9, v10, se.v, .int .i64 se.n, .int .i64 i, v14, v15, v16, v17, v18, v19] ∧ i ≤ es.length ∧ Mod (fun j => j = b) h0 h' ∧ (∀ j, j < i → okE (nthE es j) (nthI fl j) = true) ∧ ∃ l : List Int, l.length = N ∧ Own h' 1 (Sl.at b N N) (ints64 l) ∧ ∀ v, v < N → nthI l v = netF (edT es fl i) v
theorem rest_spec (H : Y.Has F.flow_rest S_flow_rest) {N : Nat} {se sf : Sl} {es : List (Int × Int)} {fl : List Int} (re : RowE h se es) (rf : Row64 h sf fl) (hE : EsIn N es) (hN : N ≤ 4096) (be : es.length ≤ 16384) (bf : sf.n ≤ 1000000)
    {R : Value → Heap → Prop} (hr0 : ∀ h', Ext h h' → ¬ okFl es fl → R (.tuple #[.slice none 0 0, .bool false]) h')
    (hr1 : ∀ h' b l, Ext h h' → h.size ≤ b → okFl es fl → l.length = N → Own h' 1 (Sl.at b N N) (ints64 l) → (∀ v, v < N → nthI l v = netF (edL es fl) v) → R (.tuple #[.slice (some ⟨b, 0, none⟩) N N, .bool true]) h') :
    CallP Y F.flow_rest [.int .i64 N, se.v, sf.v] h R := by
  have le := re.len
  have lf := rf.len
  refine .of_has H rfl ?_
  simp [S_flow_rest, FnS.wp]
  by_cases c0 : (sf.n : Int) = se.n
  rotate_left
  · have c0' : ¬ sf.n = se.n := by omega
    simp [c0, c0']
    exact hr0 h (Mod.refl _) (fun ok => c0 (by have := ok.1; omega))
  have c0' : sf.n = se.n := by omega
  simp [c0']
  refine ef_make64 (n := N) (by omega) rfl ?_
  intro b h1 g1 o1 e1 l1
  simp
  refine wp_loop' (FrI N b es fl se sf h1) (fun e _ => es.length - argI e 13) ⟨0, _, _, _, _, _, _, _, _, _, _, _, _, _, rfl, by omega, Mod.refl _, fun j hj => by omega, _, by simp, o1, fun v hv => by simp [edT, netF, nthI, hv]⟩ ?_
  rintro e h2 ⟨i, v3, v4, v6, v7, v8, v9, v10, v14, v15, v16, v17, v18, v19, rfl, hi, m2, hok, l, hl, o2, hnet⟩
  have z2 := m2.size
  have x2 : Ext h h2 := Mod.toExtF e1 m2 g1
  by_cases c : i < es.length
  rotate_left
  · have c' : ¬ (i : Int) < se.n := by omega
    simp [c']
    have hi' : i = es.length := by omega
    subst hi'
    exact hr1 h2 b l x2 g1 ⟨by omega, hok⟩ hl o2 (fun v hv => by rw [hnet v hv, edT_all])
  have c' : (i : Int) < se.n := by omega
  have cs : i < se.n := by omega
  have cf : i < sf.n := by omega
  have w1 : IntKind.i64.wrap ((i : Int) + 1) = (i : Int) + 1 := i64_wrap (by omega)
  obtain ⟨u, v, he, lu, lv⟩ := hE.at c
  have hrd := (re.ext x2).rd c
  rw [he] at hrd
  simp [c', cs, sem_idxa re.ok, hrd]
  refine ef_new_box ?_
  intro T h3 g3 T3 e3
  simp
  refine ef_store_box T3 rfl rfl (by simp) ?_
  intro h4 T4 m4
  have z4 := m4.size
  have e4 : Ext h2 h4 := Mod.toExtF e3 m4 g3
  have z4' := e4.size
  have x4 := x2.trans e4
  have o4 := o2.ext' e4
  have hfl := (rf.ext x4).val i (by omega)
  have bad : okE (nthE es i) (nthI fl i) = false → ¬ okFl es fl := fun hb ok => by rw [ok.2 i c] at hb; cases hb
  have hb2 : ∀ w, w < N → -32768 ≤ nthI l w ∧ nthI l w ≤ 32768 := fun w hw => by
    rw [hnet w hw]
    have := netT_bound (es := es) (fl := fl) (v := w) (i := i) fun j hj => ⟨(okE_bound (hok j hj)).1, (okE_bound (hok j hj)).2.1⟩
    omega
  have hiF : ∀ g (w : Nat), w < N → IOp.sem Y g (.idxa 1) [.slice (some ⟨b, 0, none⟩) N N, .int .i64 w] = some (.pointer (some ⟨b, w, none⟩)) := fun g w lw => by
    have := sem_idxF (Y := Y) (h := g) (b := b) (sz := 1) (show N ≤ 9223372036854775807 by omega) lw (Nat.le_refl N)
    simpa using this
  have hn := fun w => netT_succ (fl := fl) (v := w) he
  obtain ⟨x, hx⟩ : ∃ x, nthI fl i = x := ⟨_, rfl⟩
  rw [hx] at hfl bad hn
  have c4 : (i : Int) < sf.n := by omega
  simp [T4.hc, sem_idxa rf.ok, cf, c4, hfl]
  have hoks : okE (nthE es i) x = true → ∀ j, j < i + 1 → okE (nthE es j) (nthI fl j) = true := fun h j hj => by
    by_cases q : j = i
    · subst q; rw [hx]; exact h
    · exact hok j (by omega)
  by_cases d0 : x = 0
  · subst d0
    simp [w1]
    refine ⟨⟨i + 1, _, _, _, _, _, _, _, _, _, _, _, _, _, rfl, by omega, m2.then e4 (fun _ _ h => h.elim), hoks (by simp [okE]), l, hl, o4, fun w hw => by rw [hn, hnet w hw]; simp⟩, by simp [argI]; omega⟩
  by_cases d1 : x = 1
  · subst d1
    simp
    by_cases k : u = v
    · subst k
      simp
      exact hr0 h4 x4 (bad (by simp [okE, he]))
    have k' : ¬ (u : Int) = v := by omega
    have k2 : ¬ (v : Int) = u := by omega
    have hq := o4.row64.val u (by omega)
    simp at hq
    have b1 := hb2 u lu
    have b2 := hb2 v lv
    have wa : IntKind.i64.wrap (nthI l u + 1) = nthI l u + 1 := i64_wrap (by omega)
    have wb : IntKind.i64.wrap (nthI l v - 1) = nthI l v - 1 := i64_wrap (by omega)
    simp [k', k2, hiF _ _ lu, hq, wa]
    refine stAt o4 (k := u) (by simp [hl]; omega) ?_
    intro h5 o5 m5
    rw [ints64_set] at o5
    have hq5 := o5.row64.val v (by simp; omega)
    rw [nthI_set (by omega), if_neg (by omega)] at hq5
    simp at hq5
    simp [hiF _ _ lv, hq5, wb]
    refine stAt o5 (k := v) (by simp [hl]; omega) ?_
    intro h6 o6 m6
    rw [ints64_set] at o6
    simp [w1]
    refine ⟨⟨i + 1, _, _, _, _, _, _, _, _, _, _, _, _, _, rfl, by omega, ((m2.then e4 (fun _ _ h => h.elim)).trans m5).trans m6, hoks (by simp [okE, he, k', k2]), _, by simp [hl], o6, fun w hw => ?_⟩, by simp [argI]; omega⟩
    rw [nthI_set (by simp; omega), nthI_set (by omega), hn w, ← hnet w hw]
    by_cases q1 : w = v
    · subst q1; simp [k, Ne.symm k]; try omega
    · by_cases q2 : w = u
      · subst q2; simp [q1, Ne.symm q1]; try omega
      · simp [q1, q2, Ne.symm q1, Ne.symm q2]
  by_cases d2 : x = -1
  · subst d2
    simp
    by_cases k : v = u
    · subst k
      simp
      exact hr0 h4 x4 (bad (by simp [okE, he]))
    have k' : ¬ (u : Int) = v := by omega
    have k2 : ¬ (v : Int) = u := by omega
    have hq := o4.row64.val v (by omega)
    simp at hq
    have b1 := hb2 u lu
    have b2 := hb2 v lv
    have wa : IntKind.i64.wrap (nthI l v + 1) = nthI l v + 1 := i64_wrap (by omega)
    have wb : IntKind.i64.wrap (nthI l u - 1) = nthI l u - 1 := i64_wrap (by omega)
    simp [k', k2, hiF _ _ lv, hq, wa]
    refine stAt o4 (k := v) (by simp [hl]; omega) ?_
    intro h5 o5 m5
    rw [ints64_set] at o5
    have hq5 := o5.row64.val u (by simp; omega)
    rw [nthI_set (by omega), if_neg (by omega)] at hq5
    simp at hq5
    simp [hiF _ _ lu, hq5, wb]
    refine stAt o5 (k := u) (by simp [hl]; omega) ?_
    intro h6 o6 m6
    rw [ints64_set] at o6
    simp [w1]
    refine ⟨⟨i + 1, _, _, _, _, _, _, _, _, _, _, _, _, _, rfl, by omega, ((m2.then e4 (fun _ _ h => h.elim)).trans m5).trans m6, hoks (by simp [okE, he, k', k2]), _, by simp [hl], o6, fun w hw => ?_⟩, by simp [argI]; omega⟩
    rw [nthI_set (by simp; omega), nthI_set (by omega), hn w, ← hnet w hw]
    by_cases q1 : w = v
    · subst q1; simp [k, Ne.symm k]; try omega
    · by_cases q2 : w = u
      · subst q2; simp [q1, Ne.symm q1]; try omega
      · simp [q1, q2, Ne.symm q1, Ne.symm q2]
  have nb : okE (nthE es i) x = false := by
    cases hh : okE (nthE es i) x with
    | false => rfl
    | true => have := okE_bound hh; omega
  simp [d0, d1, d2]
  exact hr0 h4 x4 (bad nb)
end
end Go.Rm

/- Flows: value. -/
set_option linter.unusedSimpArgs false
set_option linter.unusedVariables false
namespace Go.Rm
section
variable {Y : Sys} {h h' : Heap}
def FvI1 (N b : Nat) (g : Nat → Int) (src : List Int) (se ss sd sf : Sl) (h0 : Heap) (e : List Value) (h' : Heap) : Prop :=
  ∃ (i : Nat) (all : Int) (v5 v6 v8 v10 v11 v12 v13 v17 v18 v19 v20 v21 v22 v23 v24 v25 v26 : Value), e = [.int .i64 N, se.v, ss.v, sd.v, sf.v, v5, v6, .slice (some ⟨b, 0, none⟩) N N, v8, .int .i64 all, v10, v11, v12, v13, ss.v, .int .i64 ss.n, .int .i64 i, v17, v18, v19, v20, v21, v22, v23, v24, v25, v26] ∧ i ≤ src.length ∧ Mod (fun j => j = b) h0 h' ∧ all = (sumV N fun v => if (v : Int) ∈ src.take i then g v else 0) ∧ ∃ l : List Int, l.length = N ∧ Own h' 1 (Sl.at b N N) (ints64 l) ∧ ∀ v, v < N → nthI l v = if (v : Int) ∈ src.take i then 0 else g v
def FvI2 (N b : Nat) (g : Nat → Int) (all : Int) (dst : List Int) (se ss sd sf : Sl) (h0 : Heap) (e : List Value) (h' : Heap) : Prop :=
  ∃ (i : Nat) (v5 v6 v8 v10 v11 v12 v13 v14 v15 v16 v17 v21 v22 v23 v24 v25 v26 : Value), e = [.int .i64 N, se.v, ss.v, sd.v, sf.v, v5, v6, .slice (some ⟨b, 0, none⟩) N N, v8, .int .i64 all, v10, v11, v12, v13, v14, v15, v16, v17, sd.v, .int .i64 sd.n, .int .i64 i, v21, v22, v23, v24, v25, v26] ∧ i ≤ dst.length ∧ Mod (fun j => j = b) h0 h' ∧ ∃ l : List Int, l.length = N ∧ Own h' 1 (Sl.at b N N) (ints64 l) ∧ ∀ v, v < N → nthI l v = if (v : Int) ∈ dst.take i then 0 else g v
def FvI3 (N b : Nat) (all : Int) (l : List Int) (se ss sd sf : Sl) (h0 : Heap) (e : List Value) (h' : Heap) : Prop :=
  ∃ (i : Nat) (v5 v6 v8 v10 v11 v12 v13 v14 v15 v16 v17 v18 v19 v20 v21 v25 v26 : Value), e = [.int .i64 N, se.v, ss.v, sd.v, sf.v, v5, v6, .slice (some ⟨b, 0, none⟩) N N, v8, .int .i64 all, v10, v11, v12, v13, v14, v15, v16, v17, v18, v19, v20, v21, .slice (some ⟨b, 0, none⟩) N N, .int .i64 N, .int .i64 i, v25, v26] ∧ i ≤ N ∧ Ext h0 h' ∧ ∀ v, v < i → nthI l v = 0
structure ValueFns (Y : Sys) : Prop where
  rest : Y.Has F.flow_rest S_flow_rest
  value : Y.Has F.flow_value S_flow_value
theorem value_spec (P : ValueFns Y) {N : Nat} {se sf ss sd : Sl} {es : List (Int × Int)} {fl src dst : List Int} (re : RowE h se es) (rf : Row64 h sf fl) (rs : Row64 h ss src) (rd' : Row64 h sd dst) (hE : EsIn N es)
    (hS : ∀ i, i < src.length → inV N (nthI src i) = true) (hD : ∀ i, i < dst.length → inV N (nthI dst i) = true) (hN : N ≤ 4096) (be : es.length ≤ 16384) (bf : sf.n ≤ 1000000) (bs : src.length ≤ 1000000) (bd : dst.length ≤ 1000000)
    {R : Value → Heap → Prop} (hr0 : ∀ h', Ext h h' → ¬ (okFl es fl ∧ RestZ N es fl src dst) → R (.tuple #[.int .i64 0, .bool false]) h')
    (hr1 : ∀ h', Ext h h' → okFl es fl → RestZ N es fl src dst → R (.tuple #[.int .i64 (valV N es fl src), .bool true]) h') :
    CallP Y F.flow_value [.int .i64 N, se.v, ss.v, sd.v, sf.v] h R := by
  have ls := rs.len
  have ld := rd'.len
  refine .of_has P.value rfl ?_
  simp [S_flow_value, FnS.wp]
  refine rest_spec P.rest re rf hE hN be bf ?_ ?_
  · intro h1 e1 nok
    simp
    exact hr0 h1 e1 (fun ok => nok ok.1)
  intro h1 b l e1 g1 ok hl o1 hnet
  simp
  have hz : (0 : Int) = sumV N fun v => if (v : Int) ∈ src.take 0 then netF (edL es fl) v else 0 := by rw [sumV_zero]; intro v hv; simp
  have lb : b < h1.size := o1.lt rfl
  have hiF : ∀ g (w : Nat), w < N → IOp.sem Y g (.idxa 1) [.slice (some ⟨b, 0, none⟩) N N, .int .i64 w] = some (.pointer (some ⟨b, w, none⟩)) := fun g w lw => by
    have := sem_idxF (Y := Y) (h := g) (b := b) (sz := 1) (show N ≤ 9223372036854775807 by omega) lw (Nat.le_refl N)
    simpa using this
  refine wp_loop' (FvI1 N b (netF (edL es fl)) src se ss sd sf h1) (fun e _ => src.length - argI e 16) ⟨0, 0, _, _, _, _, _, _, _, _, _, _, _, _, _, _, _, _, _, rfl, by omega, Mod.refl _, hz, l, hl, o1, fun v hv => by rw [hnet v hv]; simp⟩ ?_
  clear hz o1 hl hnet
  rintro e h2 ⟨i, all, v5, v6, v8, v10, v11, v12, v13, v17, v18, v19, v20, v21, v22, v23, v24, v25, v26, rfl, hi, m2, hall, l, hl, o2, hl2⟩
  have z2 := m2.size
  have x2 : Ext h h2 := Mod.toExtF e1 m2 g1
  by_cases c : i < src.length
  · have c' : (i : Int) < ss.n := by omega
    have cs : i < ss.n := by omega
    have w1 : IntKind.i64.wrap ((i : Int) + 1) = (i : Int) + 1 := i64_wrap (by omega)
    obtain ⟨v, hv, lv⟩ := inV_nat (hS i c)
    have hs2 := (rs.ext x2).val i c
    rw [hv] at hs2
    have hb := o2.row64.val v (by omega)
    simp at hb
    have sb := sumV_bound (n := N) (g := fun v => if (v : Int) ∈ src.take i then netF (edL es fl) v else 0) (fun v hv => by
      have := net_bound (N := N) (v := v) be ok
      split <;> omega)
    have nb : -32768 ≤ nthI l v ∧ nthI l v ≤ 32768 := by
      have := net_bound (N := N) (v := v) be ok
      rw [hl2 v lv]
      split <;> omega
    have hsum : IntKind.i64.wrap (all + nthI l v) = sumV N fun v => if (v : Int) ∈ src.take (i + 1) then netF (edL es fl) v else 0 := by
      rw [hall, i64_wrap (by omega), sumV_in c hv lv, hl2 v lv]
    simp [c', cs, sem_idxa rs.ok, hs2, hiF _ _ lv, hb]
    refine stAt o2 (k := v) (by simp [hl]; omega) ?_
    intro h3 o3 m3
    rw [ints64_set] at o3
    simp [w1]
    refine ⟨⟨i + 1, _, _, _, _, _, _, _, _, _, _, _, _, _, _, _, _, _, _, rfl, by omega, m2.trans m3, hsum, _, by simp [hl], o3, fun w hw => ?_⟩, by simp [argI]; omega⟩
    rw [nthI_set (by omega)]
    have hm : ((w : Int) ∈ src.take (i + 1)) ↔ ((w : Int) ∈ src.take i) ∨ (w : Int) = nthI src i := inSetN_succ (v := w) c
    rw [hv] at hm
    by_cases e : w = v
    · subst e
      rw [if_pos rfl, if_pos (hm.2 (.inr rfl))]
    · have : ((w : Int) ∈ src.take (i + 1)) ↔ ((w : Int) ∈ src.take i) := ⟨fun h => (hm.1 h).resolve_right (by omega), fun h => hm.2 (.inl h)⟩
      rw [if_neg e, hl2 w hw]
      simp [this]
  have c' : ¬ (i : Int) < ss.n := by omega
  rw [List.take_of_length_le (by omega)] at hl2 hall
  have hall' : all = valV N es fl src := hall
  subst hall'
  simp [c']
  refine wp_loop' (FvI2 N b (fun v => if (v : Int) ∈ src then 0 else netF (edL es fl) v) (valV N es fl src) dst se ss sd sf h2) (fun e _ => dst.length - argI e 20) ⟨0, _, _, _, _, _, _, _, _, _, _, _, _, _, _, _, _, _, rfl, by omega, Mod.refl _, l, hl, o2, fun v hv => by rw [hl2 v hv]; simp⟩ ?_
  clear hl2 o2 hl
  rintro e h3 ⟨i3, v5, v6, v8, v10, v11, v12, v13, v14, v15, v16, v17, v21, v22, v23, v24, v25, v26, rfl, hi3, m3, l, hl, o3, hl3⟩
  have z3 := m3.size
  have x3 : Ext h h3 := Mod.toExtF x2 m3 g1
  by_cases c3 : i3 < dst.length
  · have c' : (i3 : Int) < sd.n := by omega
    have cs : i3 < sd.n := by omega
    have w1 : IntKind.i64.wrap ((i3 : Int) + 1) = (i3 : Int) + 1 := i64_wrap (by omega)
    obtain ⟨v, hv, lv⟩ := inV_nat (hD i3 c3)
    have hs2 := (rd'.ext x3).val i3 c3
    rw [hv] at hs2
    simp [c', cs, sem_idxa rd'.ok, hs2, hiF _ _ lv]
    refine stAt o3 (k := v) (by simp [hl]; omega) ?_
    intro h4 o4 m4
    rw [ints64_set] at o4
    simp [w1]
    refine ⟨⟨i3 + 1, _, _, _, _, _, _, _, _, _, _, _, _, _, _, _, _, _, rfl, by omega, m3.trans m4, _, by simp [hl], o4, fun w hw => ?_⟩, by simp [argI]; omega⟩
    rw [nthI_set (by omega)]
    have hm : ((w : Int) ∈ dst.take (i3 + 1)) ↔ ((w : Int) ∈ dst.take i3) ∨ (w : Int) = nthI dst i3 := inSetN_succ (v := w) c3
    rw [hv] at hm
    by_cases e : w = v
    · subst e
      rw [if_pos rfl, if_pos (hm.2 (.inr rfl))]
    · have : ((w : Int) ∈ dst.take (i3 + 1)) ↔ ((w : Int) ∈ dst.take i3) := ⟨fun h => (hm.1 h).resolve_right (by omega), fun h => hm.2 (.inl h)⟩
      rw [if_neg e, hl3 w hw]
      simp [this]
  have c' : ¬ (i3 : Int) < sd.n := by omega
  rw [List.take_of_length_le (by omega)] at hl3
  simp [c']
  refine wp_loop' (FvI3 N b (valV N es fl src) l se ss sd sf h3) (fun e _ => N - argI e 24) ⟨0, _, _, _, _, _, _, _, _, _, _, _, _, _, _, _, _, _, rfl, by omega, Mod.refl _, fun v hv => by omega⟩ ?_
  rintro e h4 ⟨i4, v5, v6, v8, v10, v11, v12, v13, v14, v15, v16, v17, v18, v19, v20, v21, v25, v26, rfl, hi4, e4, hz⟩
  have x4 := x3.trans e4
  by_cases c4 : i4 < N
  · have c' : (i4 : Int) < N := by omega
    have w1 : IntKind.i64.wrap ((i4 : Int) + 1) = (i4 : Int) + 1 := i64_wrap (by omega)
    have hb := (o3.ext' e4).row64.val i4 (by omega)
    simp at hb
    simp [c', c4, hiF _ _ c4, hb]
    by_cases k : nthI l i4 = 0
    · simp [k, w1]
      refine ⟨⟨i4 + 1, _, _, _, _, _, _, _, _, _, _, _, _, _, _, _, _, _, rfl, by omega, e4, fun v hv => by by_cases q : v = i4; (subst q; exact k); exact hz v (by omega)⟩, by simp [argI]; omega⟩
    · simp [k]
      refine hr0 h4 x4 (fun hh => k ?_)
      rw [hl3 i4 c4]
      by_cases a1 : (i4 : Int) ∈ dst
      · simp [a1]
      · by_cases a2 : (i4 : Int) ∈ src
        · simp [a1, a2]
        · simp [a1, a2]
          exact hh.2 i4 c4 a2 a1
  have c' : ¬ (i4 : Int) < N := by omega
  simp [c']
  refine hr1 h4 x4 ok (fun v hv a1 a2 => ?_)
  have := hz v (by omega)
  rw [hl3 v hv] at this
  unfold inSetN at a1 a2
  simpa [a1, a2] using this
end
end Go.Rm

/- Flows: rows of marks that are alike; what crosses; the program's Proves. -/
set_option linter.unusedSimpArgs false
set_option linter.unusedVariables false
namespace Go.Rm
theorem nthM_at {l : List Bool} {i : Nat} (hi : i < l.length) : nthM l i = l[i] := by simp [nthM, hi]
theorem bools_eq {a b : List Bool} (hl : a.length = b.length) (h : ∀ i, i < a.length → nthM a i = nthM b i) : a = b := by
  apply List.ext_getElem hl
  intro i h1 h2
  have := h i h1
  rw [nthM_at h1, nthM_at h2] at this
  exact this
def crossF (m : List Bool) (es : List (Int × Int)) (i : Nat) : Int := crossS (nthM m) (edT es [] i)
theorem crossF_succ {m : List Bool} {es : List (Int × Int)} {i a b : Nat} (he : nthE es i = ((a : Int), (b : Int))) : crossF m es (i + 1) = crossF m es i + (if nthM m a ≠ nthM m b then 1 else 0) := by
  unfold crossF
  rw [edT_succ, crossS_app, he]
  simp [crossS]
theorem crossF_bound {m : List Bool} {es : List (Int × Int)} : ∀ {i : Nat}, 0 ≤ crossF m es i ∧ crossF m es i ≤ i
  | 0 => by simp [crossF, edT, crossS]
  | i + 1 => by
    have ih := crossF_bound (m := m) (es := es) (i := i)
    unfold crossF at ih ⊢
    rw [edT_succ, crossS_app]
    simp only [crossS]
    split <;> omega
/-- no matter what goes along the edges -/
theorem crossF_all {m : List Bool} {es : List (Int × Int)} {fl : List Int} : crossF m es es.length = crossS (nthM m) (edL es fl) := by
  unfold crossF
  apply crossS_uv
  simp [edT, edL, Ed.uv]
section
variable {Y : Sys} {h h' : Heap}
def EqBI (s t : Sl) (a b : List Bool) (h0 : Heap) (e : List Value) (h' : Heap) : Prop :=
  ∃ (i : Nat) (v2 v3 v4 v7 v8 : Value), e = [s.v, t.v, v2, v3, v4, .int .i64 t.n, .int .i64 i, v7, v8] ∧ i ≤ a.length ∧ h' = h0 ∧ ∀ j, j < i → nthM a j = nthM b j
theorem equalB_spec (H : Y.Has F.slices_Equal_bool_bool S_slices_Equal_bool_bool) {s t : Sl} {a b : List Bool} (ra : RowM h s a) (rb : RowM h t b) (hbig : a.length ≤ 1000000) {R : Value → Heap → Prop} (hr : R (.bool (decide (a = b))) h) :
    CallP Y F.slices_Equal_bool_bool [s.v, t.v] h R := by
  have la := ra.len
  have lb := rb.len
  refine .of_has H rfl ?_
  simp [S_slices_Equal_bool_bool, FnS.wp]
  by_cases c0 : s.n = t.n
  rotate_left
  · have : ¬ a = b := fun e => c0 (by rw [← la, ← lb, e])
    simp [this] at hr
    have c0' : ¬ (s.n : Int) = t.n := by omega
    simp [c0, c0']
    exact hr
  simp [c0]
  refine wp_loop' (EqBI s t a b h) (fun e _ => a.length - argI e 6) ⟨0, _, _, _, _, _, rfl, by omega, rfl, fun j hj => by omega⟩ ?_
  rintro e h2 ⟨i, v2, v3, v4, v7, v8, rfl, hi, rfl, hall⟩
  by_cases c : i < a.length
  · have c1 : (i : Int) < s.n := by omega
    have c2 : i < s.n := by omega
    have c3 : (i : Int) < t.n := by omega
    have c4 : i < t.n := by omega
    have w1 : IntKind.i64.wrap ((i : Int) + 1) = (i : Int) + 1 := i64_wrap (by omega)
    have k1 := ra.val i c
    have k2 := rb.val i (by omega)
    simp [c1, c2, c3, c4, sem_idxa ra.ok, sem_idxa rb.ok, k1, k2]
    by_cases e : nthM a i = nthM b i
    · simp [e, w1]
      refine ⟨⟨i + 1, _, _, _, _, _, rfl, by omega, rfl, fun j hj => by by_cases q : j = i; (subst q; exact e); exact hall j (by omega)⟩, by simp [argI]; omega⟩
    · have : ¬ a = b := fun q => e (by rw [q])
      simp [this] at hr
      simp [e]
      exact hr
  · have c1 : ¬ (i : Int) < s.n := by omega
    have : a = b := bools_eq (by omega) fun j hj => hall j (by omega)
    simp [this] at hr
    have c2 : ¬ i < t.n := by omega
    have c3 : ¬ (i : Int) < t.n := by omega
    simp [c1, c2, c3]
    exact hr
def SaBI (s t : Sl) (a b : List Bool) (h0 : Heap) (e : List Value) (h' : Heap) : Prop :=
  ∃ (i : Nat) (v2 v4 v5 v6 : Value), e = [s.v, t.v, v2, .int .i64 i, v4, v5, v6] ∧ i ≤ a.length ∧ h' = h0 ∧ ∀ j, j < i → nthM a j = nthM b j
theorem sameB_spec (H : Y.Has F.rref11_SameBools S_rref11_SameBools) {s t : Sl} {a b : List Bool} (ra : RowM h s a) (rb : RowM h t b) (hbig : a.length ≤ 1000000) {R : Value → Heap → Prop} (hr : R (.bool (decide (a = b))) h) :
    CallP Y F.rref11_SameBools [s.v, t.v] h R := by
  have la := ra.len
  have lb := rb.len
  refine .of_has H rfl ?_
  simp [S_rref11_SameBools, FnS.wp]
  by_cases c0 : s.n = t.n
  rotate_left
  · have : ¬ a = b := fun e => c0 (by rw [← la, ← lb, e])
    simp [this] at hr
    have c0' : ¬ (s.n : Int) = t.n := by omega
    simp [c0, c0']
    exact hr
  simp [c0]
  refine wp_loop' (SaBI s t a b h) (fun e _ => a.length - argI e 3) ⟨0, _, _, _, _, rfl, by omega, rfl, fun j hj => by omega⟩ ?_
  rintro e h2 ⟨i, v2, v4, v5, v6, rfl, hi, rfl, hall⟩
  by_cases c : i < a.length
  · have c1 : (i : Int) < s.n := by omega
    have c2 : i < s.n := by omega
    have c3 : (i : Int) < t.n := by omega
    have c4 : i < t.n := by omega
    have w1 : IntKind.i64.wrap ((i : Int) + 1) = (i : Int) + 1 := i64_wrap (by omega)
    have k1 := ra.val i c
    have k2 := rb.val i (by omega)
    simp [c1, c2, c3, c4, sem_idxa ra.ok, sem_idxa rb.ok, k1, k2]
    by_cases e : nthM a i = nthM b i
    · simp [e, w1]
      refine ⟨⟨i + 1, _, _, _, _, rfl, by omega, rfl, fun j hj => by by_cases q : j = i; (subst q; exact e); exact hall j (by omega)⟩, by simp [argI]; omega⟩
    · have : ¬ a = b := fun q => e (by rw [q])
      simp [this] at hr
      simp [e]
      exact hr
  · have c1 : ¬ (i : Int) < s.n := by omega
    have : a = b := bools_eq (by omega) fun j hj => hall j (by omega)
    simp [this] at hr
    simp [c1]
    exact hr
theorem marked_spec (H : Y.Has F.rref11_marked S_rref11_marked) {s : Sl} {m : List Bool} {v : Nat} (r : RowM h s m) (hv : v < m.length) (hbig : m.length ≤ 1000000) {R : Value → Heap → Prop} (hr : R (.bool (nthM m v)) h) :
    CallP Y F.rref11_marked [s.v, .int .i64 v] h R := by
  have l := r.len
  have c1 : (v : Int) < s.n := by omega
  have c2 : v < s.n := by omega
  have k := r.val v hv
  refine .of_has H rfl ?_
  simp [S_rref11_marked, FnS.wp, c1, c2, sem_idxa r.ok, k]
  exact hr
def CrI (s t : Sl) (m : List Bool) (es : List (Int × Int)) (h0 : Heap) (e : List Value) (h' : Heap) : Prop :=
  ∃ (i : Nat) (n : Int) (v2 v5 v6 : Value), e = [s.v, t.v, v2, .int .i64 n, .int .i64 i, v5, v6] ∧ i ≤ es.length ∧ h' = h0 ∧ n = crossF m es i
theorem rcross_spec (H : Y.Has F.rref11_Cross S_rref11_Cross) (HM : Y.Has F.rref11_marked S_rref11_marked) {s t : Sl} {m : List Bool} {es : List (Int × Int)} (r : RowM h s m) (re : RowE h t es) (hE : EsIn m.length es) (hbig : m.length ≤ 1000000) (be : es.length ≤ 16384)
    {R : Value → Heap → Prop} (hr : R (.int .i64 (crossF m es es.length)) h) : CallP Y F.rref11_Cross [s.v, t.v] h R := by
  have le := re.len
  refine .of_has H rfl ?_
  simp [S_rref11_Cross, FnS.wp]
  refine wp_loop' (CrI s t m es h) (fun e _ => es.length - argI e 4) ⟨0, 0, _, _, _, rfl, by omega, rfl, by simp [crossF, edT, crossS]⟩ ?_
  rintro e h2 ⟨i, n, v2, v5, v6, rfl, hi, rfl, hn⟩
  by_cases c : i < es.length
  · have c1 : (i : Int) < t.n := by omega
    have c2 : i < t.n := by omega
    have w1 : IntKind.i64.wrap ((i : Int) + 1) = (i : Int) + 1 := i64_wrap (by omega)
    obtain ⟨a, b, he, la, lb⟩ := hE.at c
    have k1 := re.v0 i c
    have k2 := re.v1 i c
    rw [he] at k1 k2
    have hb := crossF_bound (m := m) (es := es) (i := i)
    have hs := crossF_succ (m := m) he
    have w2 : IntKind.i64.wrap (n + 1) = n + 1 := i64_wrap (by omega)
    simp [c1, c2, sem_idxa re.ok, k1, k2]
    refine marked_spec HM r la hbig ?_
    simp [k2]
    refine marked_spec HM r lb hbig ?_
    by_cases e : nthM m a = nthM m b
    · simp [e, w1]
      simp [e] at hs
      refine ⟨⟨i + 1, _, _, _, _, rfl, by omega, rfl, by rw [hs]; exact hn⟩, by simp [argI]; omega⟩
    · simp [e, w1, w2]
      simp [e] at hs
      refine ⟨⟨i + 1, _, _, _, _, rfl, by omega, rfl, by rw [hs, hn]⟩, by simp [argI]; omega⟩
  · have c1 : ¬ (i : Int) < t.n := by omega
    have hi' : i = es.length := by omega
    subst hi'
    subst hn
    simp [c1]
    exact hr
end
end Go.Rm

/- Flows: what a result proves; the program's Proves. -/
set_option linter.unusedSimpArgs false
set_option linter.unusedVariables false
namespace Go.Rm
theorem bad1_all {p : Nat → Bool} {n : Nat} (h : bad1 p n = none) : ∀ j, j < n → p j = true := by
  unfold bad1 at h
  rw [List.find?_range_eq_none] at h
  intro j hj
  have := h j hj
  simpa using this
/-- what the check lets through -/
structure ChkOK (N : Nat) (es : List (Int × Int)) (src dst : List Int) : Prop where
  n : N ≤ 4096
  e : es.length ≤ 16384
  ends : EsIn N es
  sr : ∀ i, i < src.length → inV N (nthI src i) = true
  ds : ∀ i, i < dst.length → inV N (nthI dst i) = true
  dj : ∀ v : Nat, inSetN src v → ¬ inSetN dst v
theorem chk_ok {n : Int} {es : List (Int × Int)} {src dst : List Int} (h : (chkW n es src dst).2 = 0) : ∃ N : Nat, n = N ∧ ChkOK N es src dst ∧ chkW n es src dst = wOK := by
  unfold chkW at h ⊢
  by_cases c0 : n < 0
  · simp [c0, atW] at h
  by_cases c1 : 4096 < n
  · simp [c0, c1, atW] at h
  by_cases c2 : 16384 < es.length
  · simp [c0, c1, c2, atW] at h
  simp only [c0, c1, c2, if_false] at h ⊢
  cases k1 : bad1 (fun i => inE n (nthE es i)) es.length with
  | some i => simp [k1, atW] at h
  | none =>
    simp only [k1] at h ⊢
    cases k2 : bad1 (fun i => inV n (nthI src i)) src.length with
    | some i => simp [k2, atW] at h
    | none =>
      simp only [k2] at h ⊢
      cases k3 : bad1 (fun i => inV n (nthI dst i)) dst.length with
      | some i => simp [k3, atW] at h
      | none =>
        simp only [k3] at h ⊢
        cases k4 : dst.any (fun v => decide (v ∈ src)) with
        | true => simp [k4, atW] at h
        | false =>
          obtain ⟨N, rfl⟩ : ∃ N : Nat, n = N := ⟨n.toNat, by omega⟩
          refine ⟨N, rfl, ⟨by omega, by omega, bad1_all k1, bad1_all k2, bad1_all k3, fun v h1 h2 => ?_⟩, by simp⟩
          have : dst.any (fun v => decide (v ∈ src)) = true := List.any_eq_true.2 ⟨v, h2, decide_eq_true h1⟩
          rw [k4] at this
          cases this
theorem ChkOK.srcN {N : Nat} {es : List (Int × Int)} {src dst : List Int} (c : ChkOK N es src dst) : ∀ a, inSetN src a → a < N := fun a ha => by
  obtain ⟨j, hj, he⟩ := List.getElem_of_mem ha
  have := c.sr j hj
  rw [nthI_at hj, he] at this
  simp [inV] at this
  exact this
theorem ChkOK.dstN {N : Nat} {es : List (Int × Int)} {src dst : List Int} (c : ChkOK N es src dst) : ∀ a, inSetN dst a → a < N := fun a ha => by
  obtain ⟨j, hj, he⟩ := List.getElem_of_mem ha
  have := c.ds j hj
  rw [nthI_at hj, he] at this
  simp [inV] at this
  exact this
/-- a result proves what it tells -/
structure ProvesP (n : Int) (es : List (Int × Int)) (src dst : List Int) (val : Int) (fl : List Int) (near far : List Bool) : Prop where
  chk : (chkW n es src dst).2 = 0
  ok : okFl es fl
  rest : RestZ n.toNat es fl src dst
  val : valV n.toNat es fl src = val
  nlen : near.length = n.toNat
  flen : far.length = n.toNat
  near : ∀ v, v < n.toNat → (nthM near v = true ↔ Reach (edL es fl) (inSetN src) v)
  far : ∀ v, v < n.toNat → (nthM far v = true ↔ ¬ BReach (edL es fl) (inSetN dst) v)
  apart : ∀ v, inSetN dst v → ¬ Reach (edL es fl) (inSetN src) v
theorem edL_flow {N : Nat} {es : List (Int × Int)} {fl : List Int} (hE : EsIn N es) (ok : okFl es fl) : FlowB (edL es fl) := by
  intro e he
  simp only [edL, List.mem_map, List.mem_range] at he
  obtain ⟨j, hj, rfl⟩ := he
  obtain ⟨p, q, he, hp, hq⟩ := hE.at hj
  obtain ⟨a, b, c⟩ := okE_bound (ok.2 j hj)
  refine ⟨a, b, fun e => c ?_⟩
  rw [he] at e ⊢
  simp at e ⊢
  omega
/-- and so it tells the most -/
theorem ProvesP.most {N : Nat} {es : List (Int × Int)} {src dst : List Int} {val : Int} {fl : List Int} {near far : List Bool} (p : ProvesP N es src dst val fl near far) (c : ChkOK N es src dst) :
    MaxOf N (edL es fl) (inSetN src) (inSetN dst) val (nthM near) (nthM far) := by
  refine ⟨edL_ends c.ends, edL_flow c.ends p.ok, c.srcN, c.dstN, ?_, fun S hS => ?_, p.near, p.far, fun v hv => ?_⟩
  · exact fun v hv h1 h2 => p.rest v hv h1 h2
  · rw [← p.val]
    unfold valV
    refine sumV_congr fun v hv => ?_
    by_cases hin : inSetN src v
    · have := (hS v hv).2 hin
      unfold inSetN at hin
      simp [hin, this]
    · have : ¬ S v = true := fun h => hin ((hS v hv).1 h)
      unfold inSetN at hin
      simp [hin, this]
  · have := p.apart v hv
    cases h : nthM near v with
    | false => rfl
    | true => exact absurd ((p.near v (c.dstN v hv)).1 h) this
structure ProvesFns (Y : Sys) : Prop where
  C : FlCk Y
  S : SidesFns Y
  V : ValueFns Y
  E : Y.Has F.slices_Equal_bool_bool S_slices_Equal_bool_bool
  Proves : Y.Has F.flow_Proves S_flow_Proves
section
variable {Y : Sys} {h h' : Heap}
def PvI (n r5 v7 v8 v9 : Value) (B c N : Nat) (m : List Bool) (dst : List Int) (se ss sd : Sl) (h0 : Heap) (e : List Value) (h' : Heap) : Prop :=
  ∃ (i : Nat) (v4 v5 v6 v7 v8 v10 v11 v12 v13 v14 v18 v19 : Value), e = [n, se.v, ss.v, sd.v, v4, v5, v6, v7, v8, .slice (some ⟨c, 0, none⟩) N N, v10, v11, v12, v13, v14, sd.v, .int .i64 sd.n, .int .i64 i, v18, v19] ∧ i ≤ dst.length ∧ Ext h0 h' ∧ ∀ j, j < i → ∀ v : Nat, nthI dst j = v → nthM m v = false
theorem flproves_spec (P : ProvesFns Y) {n val : Int} {se ss sd sf sn sr : Sl} {es : List (Int × Int)} {src dst fl : List Int} {near far : List Bool} (re : RowE h se es) (rs : Row64 h ss src) (rd' : Row64 h sd dst) (rf : Row64 h sf fl) (rn : RowM h sn near) (rr : RowM h sr far)
    (bs : ss.n ≤ 1000000) (bd : sd.n ≤ 1000000) (bf : sf.n ≤ 1000000)
    {R : Value → Heap → Prop} (hr : ∀ h' b, Ext h h' → (b = true ↔ ProvesP n es src dst val fl near far) → R (.bool b) h') :
    CallP Y F.flow_Proves [.int .i64 n, se.v, ss.v, sd.v, .agg #[.int .i64 val, sf.v, sn.v, sr.v]] h R := by
  have ls := rs.len
  have ld := rd'.len
  have lf := rf.len
  have ln := rn.len
  have lr := rr.len
  refine .of_has P.Proves rfl ?_
  simp [S_flow_Proves, FnS.wp]
  refine ef_new_box ?_
  intro B h1 g1 B1 e1
  simp
  refine flcheck_spec P.C (re.ext e1) (rs.ext e1) (rd'.ext e1) bs bd ?_
  intro v h2 e2 f2 i2
  have x2 := e1.trans e2
  by_cases c0 : (chkW n es src dst).2 = 0
  rotate_left
  · obtain ⟨t, u, rfl⟩ := i2 c0
    simp
    exact hr h2 false x2 ⟨fun h => (by cases h), fun p => absurd p.chk c0⟩
  have hv := Err.nil f2.here c0
  subst hv
  obtain ⟨N, rfl, ck, _⟩ := chk_ok c0
  have B2 := B1.ext e2
  simp [B2.hc]
  refine value_spec P.V (re.ext x2) (rf.ext x2) (rs.ext x2) (rd'.ext x2) ck.ends ck.sr ck.ds ck.n ck.e bf (by omega) (by omega) ?_ ?_
  · intro h3 e3 nok
    simp
    exact hr h3 false (x2.trans e3) ⟨fun h => (by cases h), fun p => absurd ⟨p.ok, by simpa using p.rest⟩ nok⟩
  intro h3 e3 ok rest
  have x3 := x2.trans e3
  have B3 := B2.ext e3
  simp [B3.hc]
  by_cases cv : valV N es fl src = val
  rotate_left
  · simp [cv]
    exact hr h3 false x3 ⟨fun h => (by cases h), fun p => absurd (by simpa using p.val) cv⟩
  simp [cv, B3.hc]
  refine links_spec P.S.links (re.ext x3) ck.ends ck.n ck.e ?_
  intro h4 b e4 g4 lk
  have x4 := x3.trans e4
  have B4 := B3.ext e4
  simp [B4.hc]
  refine flsides_spec (s := Sl.at b N N) P.S lk.here (rf.ext x4) (rs.ext x4) (rd'.ext x4) ck.ends ck.sr ck.ds ok.1 ck.n ck.e (by omega) (by omega) ?_
  intro h5 c f m w e5 g5 g6 hm hw om ow near' far'
  have x5 := x4.trans e5
  have B5 := B4.ext e5
  simp [B5.hc]
  refine equalB_spec (s := Sl.at c N N) P.E om.rowM (rn.ext x5) (by have := ck.n; omega) ?_
  by_cases k1 : m = near
  rotate_left
  · simp [k1]
    refine hr h5 false x5 ⟨fun h => (by cases h), fun p => absurd ?_ k1⟩
    refine bools_eq (by have := p.nlen; simp at this; omega) fun i hi => ?_
    have a1 := near' i (by omega)
    have a2 := p.near i (by simp; omega)
    rw [Bool.eq_iff_iff, a1, a2]
  simp [k1, B5.hc]
  refine equalB_spec (s := Sl.at f N N) P.E ow.rowM (rr.ext x5) (by have := ck.n; omega) ?_
  by_cases k2 : w = far
  rotate_left
  · simp [k2]
    refine hr h5 false x5 ⟨fun h => (by cases h), fun p => absurd ?_ k2⟩
    refine bools_eq (by have := p.flen; simp at this; omega) fun i hi => ?_
    have a1 := far' i (by omega)
    have a2 := p.far i (by simp; omega)
    rw [Bool.eq_iff_iff, a1, a2]
  subst k1
  subst k2
  simp
  refine wp_loop' (PvI (.int .i64 N) (.pointer (some ⟨B, 0, none⟩)) undef undef undef B c N m dst se ss sd h5) (fun e _ => dst.length - argI e 17) ⟨0, _, _, _, _, _, _, _, _, _, _, _, _, rfl, by omega, Mod.refl _, fun j hj => by omega⟩ ?_
  rintro e h6 ⟨i6, v4, v5, v6, v7, v8, v10, v11, v12, v13, v14, v18, v19, rfl, hi, e6, hall⟩
  have x6 := x5.trans e6
  by_cases k : i6 < dst.length
  · have k1 : (i6 : Int) < sd.n := by omega
    have k2 : i6 < sd.n := by omega
    have w1 : IntKind.i64.wrap ((i6 : Int) + 1) = (i6 : Int) + 1 := i64_wrap (by omega)
    obtain ⟨v, hv, lv⟩ := inV_nat (ck.ds i6 k)
    have r6 := (rd'.ext x6).val i6 k
    rw [hv] at r6
    have hiF : ∀ g (w : Nat), w < N → IOp.sem Y g (.idxa 1) [.slice (some ⟨c, 0, none⟩) N N, .int .i64 w] = some (.pointer (some ⟨c, w, none⟩)) := fun g w lw => by
      have := sem_idxF (Y := Y) (h := g) (b := c) (sz := 1) (show N ≤ 9223372036854775807 by have := ck.n; omega) lw (Nat.le_refl N)
      simpa using this
    have hmv := (om.ext' e6).rowM.val v (by omega)
    simp at hmv
    simp [k1, k2, sem_idxa rd'.ok, r6, hiF _ _ lv, hmv]
    cases km : nthM m v with
    | true =>
      simp
      refine hr h6 false x6 ⟨fun h => (by cases h), fun p => absurd ((near' v lv).1 km) (p.apart v ?_)⟩
      unfold inSetN
      rw [← hv]
      exact nthI_mem k
    | false =>
      simp [w1]
      refine ⟨⟨i6 + 1, _, _, _, _, _, _, _, _, _, _, _, _, rfl, by omega, e6, fun j hj u hu => by by_cases q : j = i6; (subst q; have : u = v := (by omega); subst this; exact km); exact hall j (by omega) u hu⟩, by simp [argI]; omega⟩
  · have k1 : ¬ (i6 : Int) < sd.n := by omega
    simp [k1]
    refine hr h6 true x6 ⟨fun _ => ⟨c0, ok, by simpa using rest, by simpa using cv, by simpa using hm, by simpa using hw, by simpa using near', by simpa using far', fun v hv hre => ?_⟩, fun _ => rfl⟩
    have lv := ck.dstN v hv
    obtain ⟨j, hj, he⟩ := List.getElem_of_mem hv
    have := hall j (by omega) v (by rw [nthI_at hj]; exact he)
    rw [(near' v lv).2 hre] at this
    cases this
end
end Go.Rm

/- Flows: the document's Proves. -/
set_option linter.unusedSimpArgs false
set_option linter.unusedVariables false
namespace Go.Rm
theorem sumV_net_succ {g : Nat → Int} {i : Nat} {p : Nat → Prop} [DecidablePred p] : (sumV (i + 1) fun v => if p v then g v else 0) = (sumV i fun v => if p v then g v else 0) + (if p i then g i else 0) := rfl
structure RProvesFns (Y : Sys) : Prop where
  C : Y.Has F.rref11_CheckFlow S_rref11_CheckFlow
  A : Y.Has F.rref6_At S_rref6_At
  P : Y.Has F.rref6_Place S_rref6_Place
  S : Y.Has F.rref11_sides S_rref11_sides
  R : Y.Has F.rref11_reach S_rref11_reach
  M : Y.Has F.rref11_room S_rref11_room
  Proves : Y.Has F.rref11_Proves S_rref11_Proves
section
variable {Y : Sys} {h h' : Heap}
def RpI1 (N B b : Nat) (es : List (Int × Int)) (fl : List Int) (se ss sd : Sl) (h0 : Heap) (e : List Value) (h' : Heap) : Prop :=
  ∃ (i : Nat) (v4 v6 v9 v10 v11 v12 v13 v14 v15 v16 v17 v18 v19 v20 v21 v22 : Value), e = [.int .i64 N, se.v, ss.v, sd.v, v4, .pointer (some ⟨B, 0, none⟩), v6, .slice (some ⟨b, 0, none⟩) N N, .int .i64 i, v9, v10, v11, v12, v13, v14, v15, v16, v17, v18, v19, v20, v21, v22] ∧ i ≤ es.length ∧ Mod (fun j => j = b) h0 h' ∧ (∀ j, j < i → okE (nthE es j) (nthI fl j) = true) ∧ ∃ l : List Int, l.length = N ∧ Own h' 1 (Sl.at b N N) (ints64 l) ∧ ∀ v, v < N → nthI l v = netF (edT es fl i) v
def RpI2 (N B b : Nat) (g : Nat → Int) (src dst : List Int) (se ss sd : Sl) (h0 : Heap) (e : List Value) (h' : Heap) : Prop :=
  ∃ (i : Nat) (all : Int) (v4 v6 v8 v9 v12 v13 v14 v15 v16 v17 v18 v19 v20 v21 v22 : Value), e = [.int .i64 N, se.v, ss.v, sd.v, v4, .pointer (some ⟨B, 0, none⟩), v6, .slice (some ⟨b, 0, none⟩) N N, v8, v9, .int .i64 all, .int .i64 i, v12, v13, v14, v15, v16, v17, v18, v19, v20, v21, v22] ∧ i ≤ N ∧ Ext h0 h' ∧ all = (sumV i fun v => if (v : Int) ∈ src then g v else 0) ∧ ∀ v, v < i → ¬ inSetN src v → ¬ inSetN dst v → g v = 0
def RpI3 (N B b c f : Nat) (m w near far : List Bool) (all : Int) (dst : List Int) (se ss sd : Sl) (h0 : Heap) (e : List Value) (h' : Heap) : Prop :=
  ∃ (i : Nat) (v4 v6 v7 v8 v9 v11 v15 v16 v17 v18 v19 v20 v21 v22 : Value), e = [.int .i64 N, se.v, ss.v, sd.v, v4, .pointer (some ⟨B, 0, none⟩), v6, v7, v8, v9, .int .i64 all, v11, .slice (some ⟨c, 0, none⟩) N N, .slice (some ⟨f, 0, none⟩) N N, .int .i64 i, v15, v16, v17, v18, v19, v20, v21, v22] ∧ i ≤ N ∧ Ext h0 h' ∧ ∀ v, v < i → nthM m v = nthM near v ∧ nthM w v = nthM far v ∧ (nthM m v = true → ¬ inSetN dst v)
theorem rproves_spec (P : RProvesFns Y) {n val : Int} {se ss sd sf sn sr : Sl} {es : List (Int × Int)} {src dst fl : List Int} {near far : List Bool} (re : RowE h se es) (rs : Row64 h ss src) (rd' : Row64 h sd dst) (rf : Row64 h sf fl) (rn : RowM h sn near) (rr : RowM h sr far)
    (bs : ss.n ≤ 1000000) (bd : sd.n ≤ 1000000) (bf : sf.n ≤ 1000000) (bn : sn.n ≤ 1000000) (br : sr.n ≤ 1000000)
    {R : Value → Heap → Prop} (hr : ∀ h' b, Ext h h' → (b = true ↔ ProvesP n es src dst val fl near far) → R (.bool b) h') :
    CallP Y F.rref11_Proves [.int .i64 n, se.v, ss.v, sd.v, .agg #[.int .i64 val, sf.v, sn.v, sr.v]] h R := by
  have le := re.len
  have ls := rs.len
  have ld := rd'.len
  have lf := rf.len
  have ln := rn.len
  have lr := rr.len
  refine .of_has P.Proves rfl ?_
  simp [S_rref11_Proves, FnS.wp]
  refine ef_new_box ?_
  intro B h1 g1 B1 e1
  simp
  refine rcheckflow_spec P.C P.A P.P (re.ext e1) (rs.ext e1) (rd'.ext e1) bs bd ?_
  intro v h2 e2 f2
  have x2 := e1.trans e2
  obtain ⟨s, rfl⟩ := f2.here.shape
  by_cases c0 : (chkW n es src dst).2 = 0
  rotate_left
  · simp [c0]
    exact hr h2 false x2 ⟨fun h => (by cases h), fun p => absurd p.chk c0⟩
  obtain ⟨N, rfl, ck, _⟩ := chk_ok c0
  have bN := ck.n
  have be := ck.e
  have B2 := B1.ext e2
  by_cases c1 : sf.n = se.n
  rotate_left
  · have c1' : ¬ (sf.n : Int) = se.n := by omega
    simp [c0, B2.hc, c1, c1']
    exact hr h2 false x2 ⟨fun h => (by cases h), fun p => absurd p.ok.1 (by omega)⟩
  by_cases c2 : sn.n = N
  rotate_left
  · have c2' : ¬ (sn.n : Int) = N := by omega
    simp [c0, B2.hc, c1, c2, c2']
    exact hr h2 false x2 ⟨fun h => (by cases h), fun p => absurd p.nlen (by simp; omega)⟩
  by_cases c3 : sr.n = N
  rotate_left
  · have c3' : ¬ (sr.n : Int) = N := by omega
    simp [c0, B2.hc, c1, c2, c3, c3']
    exact hr h2 false x2 ⟨fun h => (by cases h), fun p => absurd p.flen (by simp; omega)⟩
  simp [c0, B2.hc, c1, c2, c3]
  refine ef_make64 (n := N) (by omega) rfl ?_
  intro b h3 g3 o3 e3 l3
  have x3 := x2.trans e3
  have B3 := B2.ext e3
  have z1 := e1.size
  have z2 := e2.size
  have z3 := e3.size
  have lB := B1.lt
  simp
  refine wp_loop' (RpI1 N B b es fl se ss sd h3) (fun e _ => es.length - argI e 8) ⟨0, _, _, _, _, _, _, _, _, _, _, _, _, _, _, _, _, rfl, by omega, Mod.refl _, fun j hj => by omega, _, by simp, o3, fun v hv => by simp [edT, netF, nthI, hv]⟩ ?_
  rintro e h4 ⟨i, v4, v6, v9, v10, v11, v12, v13, v14, v15, v16, v17, v18, v19, v20, v21, v22, rfl, hi, m4, hok, l, hl, o4, hnet⟩
  have z4 := m4.size
  have x4 : Ext h h4 := Mod.toExtF x3 m4 (by omega)
  have B4 := m4.blk B3 (by omega)
  have hiF : ∀ g z (w : Nat), w < N → IOp.sem Y g (.idxa 1) [.slice (some ⟨z, 0, none⟩) N N, .int .i64 w] = some (.pointer (some ⟨z, w, none⟩)) := fun g z w lw => by
    have := sem_idxF (Y := Y) (h := g) (b := z) (sz := 1) (show N ≤ 9223372036854775807 by omega) lw (Nat.le_refl N)
    simpa using this
  by_cases c : i < es.length
  · have c' : (i : Int) < se.n := by omega
    have cs : i < se.n := by omega
    have cf : (i : Int) < sf.n := by omega
    have cf' : i < sf.n := by omega
    have w1 : IntKind.i64.wrap ((i : Int) + 1) = (i : Int) + 1 := i64_wrap (by omega)
    obtain ⟨u, v, he, lu, lv⟩ := ck.ends.at c
    have k0 := (re.ext x4).v0 i c
    have k1 := (re.ext x4).v1 i c
    rw [he] at k0 k1
    have kf := (rf.ext x4).val i (by omega)
    have hb2 : ∀ w, w < N → -32768 ≤ nthI l w ∧ nthI l w ≤ 32768 := fun w hw => by
      rw [hnet w hw]
      have := netT_bound (es := es) (fl := fl) (v := w) (i := i) fun j hj => ⟨(okE_bound (hok j hj)).1, (okE_bound (hok j hj)).2.1⟩
      omega
    have bad : okE (nthE es i) (nthI fl i) = false → ¬ okFl es fl := fun hb ok => by rw [ok.2 i c] at hb; cases hb
    have hn := fun w => netT_succ (fl := fl) (v := w) he
    obtain ⟨x, hx⟩ : ∃ x, nthI fl i = x := ⟨_, rfl⟩
    rw [hx] at kf bad hn
    have hoks : okE (nthE es i) x = true → ∀ j, j < i + 1 → okE (nthE es j) (nthI fl j) = true := fun h j hj => by
      by_cases q : j = i
      · subst q; rw [hx]; exact h
      · exact hok j (by omega)
    have out : okE (nthE es i) x = false → R (.bool false) h4 := fun hb => hr h4 false x4 ⟨fun h => (by cases h), fun p => absurd p.ok (bad hb)⟩
    by_cases d1 : x < -1
    · simp [c', cs, B4.hc, sem_idxa rf.ok, cf, cf', kf, d1]
      refine out ?_
      cases hh : okE (nthE es i) x with
      | false => rfl
      | true => have := okE_bound hh; omega
    by_cases d2 : 1 < x
    · simp [c', cs, B4.hc, sem_idxa rf.ok, cf, cf', kf, d1, d2]
      refine out ?_
      cases hh : okE (nthE es i) x with
      | false => rfl
      | true => have := okE_bound hh; omega
    have q0 := o4.row64.val u (by omega)
    simp at q0
    have b1 := hb2 u lu
    have b2 := hb2 v lv
    have wa : IntKind.i64.wrap (nthI l u + x) = nthI l u + x := i64_wrap (by omega)
    have wb : IntKind.i64.wrap (nthI l v - x) = nthI l v - x := i64_wrap (by omega)
    have wc : IntKind.i64.wrap (nthI l v + x - x) = nthI l v := by rw [i64_wrap (by omega)]; omega
    by_cases d0 : x = 0
    · subst d0
      simp at wa wb
      simp [c', cs, B4.hc, sem_idxa rf.ok, cf, cf', kf, sem_idxa re.ok, k0, k1, hiF _ _ _ lu, q0, wa]
      refine stAt o4 (k := u) (by simp [hl]; omega) ?_
      intro h5 o5 m5
      rw [ints64_set] at o5
      have x5 := Mod.toExtF x4 m5 (by omega)
      have k1' := (re.ext x5).v1 i c
      rw [he] at k1'
      have q1 := o5.row64.val v (by simp; omega)
      have q2 : nthI (l.set u (nthI l u)) v = nthI l v := by rw [nthI_set (by omega)]; split <;> simp_all
      rw [q2] at q1
      simp at q1
      simp [sem_idxa re.ok, k1', cs, c', hiF _ _ _ lv, q1, wb]
      refine stAt o5 (k := v) (by simp [hl]; omega) ?_
      intro h6 o6 m6
      rw [ints64_set] at o6
      simp [w1]
      refine ⟨⟨i + 1, _, _, _, _, _, _, _, _, _, _, _, _, _, _, _, _, rfl, by omega, (m4.trans m5).trans m6, hoks (by simp [okE]), _, by simp [hl], o6, fun w hw => ?_⟩, by simp [argI]; omega⟩
      rw [nthI_set (by simp; omega), nthI_set (by omega), hn w, ← hnet w hw]
      split
      · rename_i e; subst e; simp
      · split
        · rename_i e; subst e; simp
        · simp
    by_cases d3 : u = v
    · have d3' : (u : Int) = v := by omega
      simp [c', cs, B4.hc, sem_idxa rf.ok, cf, cf', kf, d1, d2, d0, sem_idxa re.ok, k0, k1, d3']
      exact out (by simp [okE, he, d3', d0])
    · have d3' : ¬ (u : Int) = v := by omega
      simp [c', cs, B4.hc, sem_idxa rf.ok, cf, cf', kf, d1, d2, d0, sem_idxa re.ok, k0, k1, d3', hiF _ _ _ lu, q0, wa]
      refine stAt o4 (k := u) (by simp [hl]; omega) ?_
      intro h5 o5 m5
      rw [ints64_set] at o5
      have x5 := Mod.toExtF x4 m5 (by omega)
      have k1' := (re.ext x5).v1 i c
      rw [he] at k1'
      have q1 := o5.row64.val v (by simp; omega)
      rw [nthI_set (by omega), if_neg (by omega)] at q1
      simp at q1
      simp [sem_idxa re.ok, k1', cs, c', hiF _ _ _ lv, q1, wb]
      refine stAt o5 (k := v) (by simp [hl]; omega) ?_
      intro h6 o6 m6
      rw [ints64_set] at o6
      simp [w1]
      have l1 : -1 ≤ x := by omega
      have l2 : x ≤ 1 := by omega
      refine ⟨⟨i + 1, _, _, _, _, _, _, _, _, _, _, _, _, _, _, _, _, rfl, by omega, (m4.trans m5).trans m6, hoks (by simp [okE, he, d3', l1, l2]), _, by simp [hl], o6, fun w hw => ?_⟩, by simp [argI]; omega⟩
      rw [nthI_set (by simp; omega), nthI_set (by omega), hn w, ← hnet w hw]
      by_cases q1 : w = v
      · subst q1; simp [d3]; omega
      · by_cases q2 : w = u
        · subst q2; simp [q1, Ne.symm q1]
        · simp [q1, q2, Ne.symm q1, Ne.symm q2]
  have c' : ¬ (i : Int) < se.n := by omega
  have hi' : i = es.length := by omega
  subst hi'
  have ok : okFl es fl := ⟨by omega, hok⟩
  rw [edT_all] at hnet
  simp [c']
  refine wp_loop' (RpI2 N B b (netF (edL es fl)) src dst se ss sd h4) (fun e _ => N - argI e 11) ⟨0, 0, _, _, _, _, _, _, _, _, _, _, _, _, _, _, _, rfl, by omega, Mod.refl _, by simp [sumV], fun v hv => by omega⟩ ?_
  rintro e h5 ⟨i5, all, v4, v6, v8, v9, v12, v13, v14, v15, v16, v17, v18, v19, v20, v21, v22, rfl, hi5, e5, hall, hz⟩
  have x5 := x4.trans e5
  have B5 := B4.ext e5
  by_cases k5 : i5 < N
  · have k5' : (i5 : Int) < N := by omega
    have w1 : IntKind.i64.wrap ((i5 : Int) + 1) = (i5 : Int) + 1 := i64_wrap (by omega)
    have q0 := (o4.ext' e5).row64.val i5 (by omega)
    simp at q0
    have nb := net_bound (N := N) (v := i5) be ok
    have sb := sumV_bound (n := i5) (g := fun v => if (v : Int) ∈ src then netF (edL es fl) v else 0) (fun v hv => by
      have := net_bound (N := N) (v := v) be ok
      split <;> omega)
    have hl5 := hnet i5 k5
    have w2 : IntKind.i64.wrap (all + nthI l i5) = all + nthI l i5 := i64_wrap (by omega)
    simp [k5', k5]
    refine rplace_spec P.P (rs.ext x5) bs ?_
    by_cases a1 : (i5 : Int) ∈ src
    · have p1 := (place_pos (l := src) (a := (i5 : Int)) (k := 0)).2 a1
      simp [p1, hiF _ _ _ k5, q0, w1, w2]
      refine ⟨⟨i5 + 1, _, _, _, _, _, _, _, _, _, _, _, _, _, _, _, _, rfl, by omega, e5, by rw [sumV_net_succ, if_pos a1, hall, hl5], fun v hv b1 b2 => by by_cases q : v = i5; (subst q; exact absurd a1 b1); exact hz v (by omega) b1 b2⟩, by simp [argI]; omega⟩
    · have p1 : ¬ 0 ≤ placeF 0 src (i5 : Int) := fun h => a1 (place_pos.1 h)
      simp [p1]
      refine rplace_spec P.P (rd'.ext x5) bd ?_
      by_cases a2 : (i5 : Int) ∈ dst
      · have p2 := (place_pos (l := dst) (a := (i5 : Int)) (k := 0)).2 a2
        have p2' : ¬ placeF 0 dst (i5 : Int) < 0 := by omega
        simp [p2, p2', w1]
        refine ⟨⟨i5 + 1, _, _, _, _, _, _, _, _, _, _, _, _, _, _, _, _, rfl, by omega, e5, by rw [sumV_net_succ, if_neg a1, hall]; omega, fun v hv b1 b2 => by by_cases q : v = i5; (subst q; exact absurd a2 b2); exact hz v (by omega) b1 b2⟩, by simp [argI]; omega⟩
      · have p2 : ¬ 0 ≤ placeF 0 dst (i5 : Int) := fun h => a2 (place_pos.1 h)
        have p2' : placeF 0 dst (i5 : Int) < 0 := by omega
        by_cases a3 : nthI l i5 = 0
        · simp [p2, p2', hiF _ _ _ k5, q0, a3, w1]
          refine ⟨⟨i5 + 1, _, _, _, _, _, _, _, _, _, _, _, _, _, _, _, _, rfl, by omega, e5, by rw [sumV_net_succ, if_neg a1, hall]; omega, fun v hv b1 b2 => by by_cases q : v = i5; (subst q; rw [← hl5]; exact a3); exact hz v (by omega) b1 b2⟩, by simp [argI]; omega⟩
        · simp [p2, p2', hiF _ _ _ k5, q0, a3]
          exact hr h5 false x5 ⟨fun h => (by cases h), fun p => absurd (p.rest i5 (by simpa using k5) a1 a2) (by rw [← hl5]; exact a3)⟩
  have k5' : ¬ (i5 : Int) < N := by omega
  have hi5' : i5 = N := by omega
  subst hi5'
  have hall' : all = valV i5 es fl src := hall
  have rest : RestZ i5 es fl src dst := hz
  simp [k5', B5.hc]
  refine rsides_spec P.S P.R P.M (re.ext x5) (rf.ext x5) (rs.ext x5) (rd'.ext x5) ck.ends ck.sr ck.ds ok.1 (fun j hj => ⟨(okE_bound (ok.2 j (by omega))).1, (okE_bound (ok.2 j (by omega))).2.1⟩) bN be (by omega) (by omega) ?_
  intro h6 c6 f6 m w e6 g6 g6' hm hw om ow near' far'
  have x6 := x5.trans e6
  have B6 := B5.ext e6
  simp
  refine wp_loop' (RpI3 i5 B b c6 f6 m w near far all dst se ss sd h6) (fun e _ => i5 - argI e 14) ⟨0, _, _, _, _, _, _, _, _, _, _, _, _, _, _, rfl, by omega, Mod.refl _, fun v hv => by omega⟩ ?_
  rintro e h7 ⟨i7, v4, v6, v7, v8, v9, v11, v15, v16, v17, v18, v19, v20, v21, v22, rfl, hi7, e7, hall7⟩
  have x7 := x6.trans e7
  have B7 := B6.ext e7
  by_cases k7 : i7 < i5
  · have k7' : (i7 : Int) < i5 := by omega
    have w1 : IntKind.i64.wrap ((i7 : Int) + 1) = (i7 : Int) + 1 := i64_wrap (by omega)
    have q1 := (om.ext' e7).rowM.val i7 (by omega)
    have q2 := (ow.ext' e7).rowM.val i7 (by omega)
    simp at q1 q2
    have q3 := (rn.ext x7).val i7 (by omega)
    have q4 := (rr.ext x7).val i7 (by omega)
    have n1 : (i7 : Int) < sn.n := by omega
    have n1' : i7 < sn.n := by omega
    have n2 : (i7 : Int) < sr.n := by omega
    have n2' : i7 < sr.n := by omega
    by_cases e1 : nthM m i7 = nthM near i7
    rotate_left
    · simp [k7', k7, hiF _ _ _ k7, q1, q2, q3, q4, B7.hc, sem_idxa rn.ok, sem_idxa rr.ok, n1, n1', n2, n2', e1]
      refine hr h7 false x7 ⟨fun h => (by cases h), fun p => absurd ?_ e1⟩
      rw [Bool.eq_iff_iff, near' i7 k7, p.near i7 (by simpa using k7)]
    by_cases e2 : nthM w i7 = nthM far i7
    rotate_left
    · simp [k7', k7, hiF _ _ _ k7, q1, q2, q3, q4, B7.hc, sem_idxa rn.ok, sem_idxa rr.ok, n1, n1', n2, n2', e1, e2]
      refine hr h7 false x7 ⟨fun h => (by cases h), fun p => absurd ?_ e2⟩
      rw [Bool.eq_iff_iff, far' i7 k7, p.far i7 (by simpa using k7)]
    cases e3 : nthM near i7 with
    | false =>
      rw [e3] at q3 e1
      rw [e1] at q1
      simp [k7', k7, hiF _ _ _ k7, q1, q2, q3, q4, B7.hc, sem_idxa rn.ok, sem_idxa rr.ok, n1, n1', n2, n2', e1, e2, w1]
      refine ⟨⟨i7 + 1, _, _, _, _, _, _, _, _, _, _, _, _, _, _, rfl, by omega, e7, fun v hv => by by_cases q : v = i7; (subst q; exact ⟨by rw [e1, e3], e2, fun h => by rw [e1] at h; cases h⟩); exact hall7 v (by omega)⟩, by simp [argI]; omega⟩
    | true =>
      rw [e3] at q3 e1
      rw [e1] at q1
      simp [k7', k7, hiF _ _ _ k7, q1, q2, q3, q4, B7.hc, sem_idxa rn.ok, sem_idxa rr.ok, n1, n1', n2, n2', e1, e2]
      refine rplace_spec P.P (rd'.ext x7) bd ?_
      by_cases a2 : (i7 : Int) ∈ dst
      · have p2 := (place_pos (l := dst) (a := (i7 : Int)) (k := 0)).2 a2
        simp [p2]
        exact hr h7 false x7 ⟨fun h => (by cases h), fun p => absurd ((near' i7 k7).1 e1) (p.apart i7 a2)⟩
      · have p2 : ¬ 0 ≤ placeF 0 dst (i7 : Int) := fun h => a2 (place_pos.1 h)
        simp [p2, w1]
        refine ⟨⟨i7 + 1, _, _, _, _, _, _, _, _, _, _, _, _, _, _, rfl, by omega, e7, fun v hv => by by_cases q : v = i7; (subst q; exact ⟨by rw [e1, e3], e2, fun _ => a2⟩); exact hall7 v (by omega)⟩, by simp [argI]; omega⟩
  have k7' : ¬ (i7 : Int) < i5 := by omega
  simp [k7', B7.hc]
  refine hr h7 _ x7 ?_
  rw [decide_eq_true_eq]
  constructor
  · intro hv
    refine ⟨c0, ok, by simpa using rest, by simp [← hall', hv], by simp; omega, by simp; omega, fun v hv => ?_, fun v hv => ?_, fun v hv hre => ?_⟩
    · simp at hv
      rw [← (hall7 v (by omega)).1]; exact near' v hv
    · simp at hv
      rw [← (hall7 v (by omega)).2.1]; exact far' v hv
    · have lv := ck.dstN v hv
      exact (hall7 v (by omega)).2.2 ((near' v lv).2 hre) hv
  · intro p
    rw [hall']
    simpa using p.val
end
end Go.Rm
